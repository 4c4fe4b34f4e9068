/- The form of trees: what is asked of a node's fields and of names. -/
import Derived.Test.YteaoocedcjijdaaGreatDoorSEK1
import Derived.Test.YteaoocedcjijdaaGreatDoorPuA
import Derived.Test.YteaoocedcjijdaaGreatDoorEvC
set_option linter.all false
set_option linter.unusedVariables false
set_option linter.unusedSimpArgs false
namespace Go.Ev
open Go
set_option maxRecDepth 100000
set_option maxHeartbeats 4000000
theorem Fr.all {h h':AHeap} (f:Fr h.n h h') {b:Nat} (hb:b<h.n):h'.get b=h.get b:=f.old b hb (by omega)
theorem Sl.block {es lo n:Nat} {h:AHeap} {v:AV} {cs:List AV} (s:Sl es lo h v n cs) (hn:0<n):∃b ver,v=.slice b 0 n n false∧lo≤b∧b<h.n∧h.get b=some ⟨ver,.cells .own es cs⟩:=by
 obtain ⟨_,⟨rfl,_⟩|⟨_,h⟩⟩:=s
 ·omega
 ·exact h
def formStop:CRes:=.pan (.iface 145 (.agg []))
def AskQ (h:AHeap) (Q:QR) (b:Bool):Prop:=∀h',Fr h.n h h'→(b=true→Q (.ret undefA) h')∧(b=false→Q formStop h')
theorem AskQ.mono {h h1:AHeap} {Q:QR} {b:Bool} (q:AskQ h Q b) (f:Fr h.n h h1) (hn:h.n≤h1.n):AskQ h1 Q b:=fun h' f'=>q h' (f.trans ⟨f'.n,fun b hb hne=>f'.old b (by omega) (by omega)⟩)
theorem need_spec {b:Bool} {h:AHeap} {Q:QR} (hQ:AskQ h Q b):WF F 94 [.agg [],.bool b] h Q:=by
 refine WF.code F94 rfl ?_
 simp(disch:=(try simp only[hN]);omega)only[go_sem,simprocAttr]
 cases b with
 | true=>
  simp(disch:=(try simp only[hN]);omega)only[go_sem,simprocAttr]
  exact (hQ _ ⟨by (try simp only[hN]);omega,fun b hb hne=>by (try simp only[hN] at hb hne);simp(disch:=(try simp only[hN]);omega)only[go_sem,simprocAttr]⟩).1 rfl
 | false=>
  simp(disch:=(try simp only[hN]);omega)only[go_sem,simprocAttr]
  exact (hQ _ ⟨by (try simp only[hN]);omega,fun b hb hne=>by (try simp only[hN] at hb hne);simp(disch:=(try simp only[hN]);omega)only[go_sem,simprocAttr]⟩).2 rfl
theorem bare_spec {n:Nd} {kv:AV} {nm:Bs} {t k bits kd ps:Int} {h:AHeap} {Q:QR} (hkf:kv.flat=true) (hkc:kv.cells=[kv]) (hQ:AskQ h Q (bareB n nm t k bits)) :
  WF F 95 [.agg [],.agg (ndC n kv),.agg [.int .i64 kd,.int .i64 ps,.str nm,.int .i64 t,.int .i64 k,.int .i64 0,.int .i64 0,.int .u64 bits,.nilSlice]] h Q:=by
 obtain ⟨nk,np,nn,nt,nc,nz,no,nb,nks⟩:=n
 refine WF.code F95 rfl ?_
 simp(disch:=(try simp only[hN]);omega)only[go_sem,simprocAttr,ndC,hkf,hkc,Nd.kind,Nd.pos,Nd.name,Nd.typ,Nd.n,Nd.size,Nd.obj,Nd.bits]
 have hq:∀b h1,Fr h.n h h1→bareB (Nd.mk nk np nn nt nc nz no nb nks) nm t k bits=b→(b=true→Q (.ret undefA) h1)∧(b=false→Q formStop h1):=fun b h1 f e=>e ▸ hQ h1 f
 simp only[bareB,Nd.name,Nd.typ,Nd.n,Nd.size,Nd.obj,Nd.bits] at hq
 clear hQ
 refine ⟨by simp,?_⟩
 (first|refine kA (fun e1=>?_) (fun e1=>?_)|refine kB (fun e1=>?_) (fun e1=>?_)|refine kC (fun e1=>?_) (fun e1=>?_)|refine kD (fun e1=>?_) (fun e1=>?_)|refine kE (fun e1=>?_) (fun e1=>?_)|refine kF (fun e1=>?_) (fun e1=>?_))<;>simp(disch:=(try simp only[hN]);omega)only[go_sem,simprocAttr,e1]
 ·(first|refine kA (fun e2=>?_) (fun e2=>?_)|refine kB (fun e2=>?_) (fun e2=>?_)|refine kC (fun e2=>?_) (fun e2=>?_)|refine kD (fun e2=>?_) (fun e2=>?_)|refine kE (fun e2=>?_) (fun e2=>?_)|refine kF (fun e2=>?_) (fun e2=>?_))<;>simp(disch:=(try simp only[hN]);omega)only[go_sem,simprocAttr,e2]
  ·(first|refine kA (fun e3=>?_) (fun e3=>?_)|refine kB (fun e3=>?_) (fun e3=>?_)|refine kC (fun e3=>?_) (fun e3=>?_)|refine kD (fun e3=>?_) (fun e3=>?_)|refine kE (fun e3=>?_) (fun e3=>?_)|refine kF (fun e3=>?_) (fun e3=>?_))<;>simp(disch:=(try simp only[hN]);omega)only[go_sem,simprocAttr,e3]
   ·(first|refine kA (fun e4=>?_) (fun e4=>?_)|refine kB (fun e4=>?_) (fun e4=>?_)|refine kC (fun e4=>?_) (fun e4=>?_)|refine kD (fun e4=>?_) (fun e4=>?_)|refine kE (fun e4=>?_) (fun e4=>?_)|refine kF (fun e4=>?_) (fun e4=>?_))<;>simp(disch:=(try simp only[hN]);omega)only[go_sem,simprocAttr,e4]
    ·(first|refine kA (fun e5=>?_) (fun e5=>?_)|refine kB (fun e5=>?_) (fun e5=>?_)|refine kC (fun e5=>?_) (fun e5=>?_)|refine kD (fun e5=>?_) (fun e5=>?_)|refine kE (fun e5=>?_) (fun e5=>?_)|refine kF (fun e5=>?_) (fun e5=>?_))<;>simp(disch:=(try simp only[hN]);omega)only[go_sem,simprocAttr,e5]
     ·refine need_spec fun h' f=>?_
      have hn:=f.n;try simp only[hN] at hn
      have:=hq (nb==bits) h' ⟨by (try simp only[hN]);omega,fun b hb hne=>by (try simp only[hN] at hb hne);simp(disch:=(try simp only[hN]);omega)only[go_sem,simprocAttr,f.old]⟩ (by rw[e1,e2,e3,e4,e5];rfl)
      exact ⟨fun e=>by first|exact this.1 e|(simp(disch:=(try simp only[hN]);omega)only[go_sem,simprocAttr];exact this.1 e),fun e=>by first|exact this.2 e|(simp(disch:=(try simp only[hN]);omega)only[go_sem,simprocAttr,formStop];exact this.2 e)⟩
     ·refine need_spec fun h' f=>?_
      have hn:=f.n;try simp only[hN] at hn
      have:=hq false h' ⟨by (try simp only[hN]);omega,fun b hb hne=>by (try simp only[hN] at hb hne);simp(disch:=(try simp only[hN]);omega)only[go_sem,simprocAttr,f.old]⟩ (by rw[e1,e2,e3,e4,e5];rfl)
      exact ⟨fun e=>(by cases e),fun e=>by first|exact this.2 e|(simp(disch:=(try simp only[hN]);omega)only[go_sem,simprocAttr,formStop];exact this.2 e)⟩
    ·refine need_spec fun h' f=>?_
     have hn:=f.n;try simp only[hN] at hn
     have:=hq false h' ⟨by (try simp only[hN]);omega,fun b hb hne=>by (try simp only[hN] at hb hne);simp(disch:=(try simp only[hN]);omega)only[go_sem,simprocAttr,f.old]⟩ (by rw[e1,e2,e3,e4];rfl)
     exact ⟨fun e=>(by cases e),fun e=>by first|exact this.2 e|(simp(disch:=(try simp only[hN]);omega)only[go_sem,simprocAttr,formStop];exact this.2 e)⟩
   ·refine need_spec fun h' f=>?_
    have hn:=f.n;try simp only[hN] at hn
    have:=hq false h' ⟨by (try simp only[hN]);omega,fun b hb hne=>by (try simp only[hN] at hb hne);simp(disch:=(try simp only[hN]);omega)only[go_sem,simprocAttr,f.old]⟩ (by rw[e1,e2,e3];rfl)
    exact ⟨fun e=>(by cases e),fun e=>by first|exact this.2 e|(simp(disch:=(try simp only[hN]);omega)only[go_sem,simprocAttr,formStop];exact this.2 e)⟩
  ·refine need_spec fun h' f=>?_
   have hn:=f.n;try simp only[hN] at hn
   have:=hq false h' ⟨by (try simp only[hN]);omega,fun b hb hne=>by (try simp only[hN] at hb hne);simp(disch:=(try simp only[hN]);omega)only[go_sem,simprocAttr,f.old]⟩ (by rw[e1,e2];rfl)
   exact ⟨fun e=>(by cases e),fun e=>by first|exact this.2 e|(simp(disch:=(try simp only[hN]);omega)only[go_sem,simprocAttr,formStop];exact this.2 e)⟩
 ·refine need_spec fun h' f=>?_
  have hn:=f.n;try simp only[hN] at hn
  have:=hq false h' ⟨by (try simp only[hN]);omega,fun b hb hne=>by (try simp only[hN] at hb hne);simp(disch:=(try simp only[hN]);omega)only[go_sem,simprocAttr,f.old]⟩ (by rw[e1];rfl)
  exact ⟨fun e=>(by cases e),fun e=>by first|exact this.2 e|(simp(disch:=(try simp only[hN]);omega)only[go_sem,simprocAttr,formStop];exact this.2 e)⟩
theorem fword_spec {s:Bs} {h:AHeap} {Q:QR} (hG:GH h) (hlen:s.length<2^62) (hQ:AskQ h Q (wordB s)):WF F 97 [.agg [],.str s] h Q:=by
 refine WF.code F97 rfl ?_
 simp(disch:=(try simp only[hN]);omega)only[go_sem,simprocAttr]
 refine tokens_spec (hG.alloc _) hlen ?_
 unfold wordB at hQ
 cases hts:tokens s with
 | error x=>
  obtain ⟨e,p⟩:=x
  rw[hts] at hQ
  intro h1 f1
  have hn1:=f1.n;try simp only[hN] at hn1
  simp(disch:=(try simp only[hN]);omega)only[go_sem,simprocAttr,f1.old,errAV,errG,eqT,eqK]
  refine need_spec fun h' f=>?_
  have hn:=f.n;try simp only[hN] at hn
  have:=hQ h' ⟨by (try simp only[hN]);omega,fun b hb hne=>by (try simp only[hN] at hb hne);simp(disch:=(try simp only[hN]);omega)only[go_sem,simprocAttr,f.old,f1.old]⟩
  exact ⟨fun e=>(by cases e),fun e=>by simp(disch:=(try simp only[hN]);omega)only[go_sem,simprocAttr,formStop];exact this.2 rfl⟩
 | ok ts=>
  rw[hts] at hQ
  intro h1 v f1 hsl
  have hn1:=f1.n;try simp only[hN] at hn1
  match ts,hsl,hQ with
  | [],hsl,hQ=>
   have hv:v=.nilSlice:=by
    obtain ⟨_,⟨_,h2⟩|⟨h2,_⟩⟩:=hsl
    ·exact h2
    ·simp at h2
   subst hv
   simp(disch:=(try simp only[hN]);omega)only[go_sem,simprocAttr,f1.old,eqT,eqK]
   refine need_spec fun h' f=>?_
   have hn:=f.n;try simp only[hN] at hn
   have:=hQ h' ⟨by (try simp only[hN]);omega,fun b hb hne=>by (try simp only[hN] at hb hne);simp(disch:=(try simp only[hN]);omega)only[go_sem,simprocAttr,f.old,f1.old]⟩
   exact ⟨fun e=>(by cases e),fun e=>by simp(disch:=(try simp only[hN]);omega)only[go_sem,simprocAttr,formStop];exact this.2 rfl⟩
  | [t],hsl,hQ=>
   obtain ⟨b,ver,rfl,hb1,hb2,hb3⟩:=hsl.block (by simp)
   have hrow:toksAV [t]=[.int .i64 t.kind,.str t.text,.int .i64 t.n,.int .u64 t.bits,.int .i64 t.pos]:=rfl
   rw[hrow] at hb3
   simp(disch:=(try simp only[hN]);omega)only[go_sem,simprocAttr,f1.old,eqT,eqK,hb3]
   (first|refine kA (fun e1=>?_) (fun e1=>?_)|refine kB (fun e1=>?_) (fun e1=>?_)|refine kC (fun e1=>?_) (fun e1=>?_)|refine kD (fun e1=>?_) (fun e1=>?_)|refine kE (fun e1=>?_) (fun e1=>?_)|refine kF (fun e1=>?_) (fun e1=>?_))<;>simp(disch:=(try simp only[hN]);omega)only[go_sem,simprocAttr,e1,hb3]
   ·refine need_spec fun h' f=>?_
    have hn:=f.n;try simp only[hN] at hn
    have:=hQ h' ⟨by (try simp only[hN]);omega,fun b hb hne=>by (try simp only[hN] at hb hne);simp(disch:=(try simp only[hN]);omega)only[go_sem,simprocAttr,f.old,f1.old]⟩
    simp only[e1,Bool.true_and] at this
    exact ⟨fun e=>by simp(disch:=(try simp only[hN]);omega)only[go_sem,simprocAttr];exact this.1 e,fun e=>by simp(disch:=(try simp only[hN]);omega)only[go_sem,simprocAttr,formStop];exact this.2 e⟩
   ·refine need_spec fun h' f=>?_
    have hn:=f.n;try simp only[hN] at hn
    have:=hQ h' ⟨by (try simp only[hN]);omega,fun b hb hne=>by (try simp only[hN] at hb hne);simp(disch:=(try simp only[hN]);omega)only[go_sem,simprocAttr,f.old,f1.old]⟩
    have h3:=this.2 (by simp only[e1,Bool.false_and])
    exact ⟨fun e=>(by cases e),fun e=>by simp(disch:=(try simp only[hN]);omega)only[go_sem,simprocAttr,formStop];exact h3⟩
  | t::t2::r,hsl,hQ=>
   obtain ⟨b,ver,rfl,hb1,hb2,hb3⟩:=hsl.block (by simp)
   have c1:(((r.length+1+1:Nat):Int)==1)=false:=by
    rw[beq_eq_false_iff_ne];omega
   simp(disch:=(try simp only[hN]);omega)only[go_sem,simprocAttr,f1.old,eqT,eqK,c1]
   refine need_spec fun h' f=>?_
   have hn:=f.n;try simp only[hN] at hn
   have:=hQ h' ⟨by (try simp only[hN]);omega,fun b hb hne=>by (try simp only[hN] at hb hne);simp(disch:=(try simp only[hN]);omega)only[go_sem,simprocAttr,f.old,f1.old]⟩
   exact ⟨fun e=>(by cases e),fun e=>by simp(disch:=(try simp only[hN]);omega)only[go_sem,simprocAttr,formStop];exact this.2 rfl⟩
theorem frecover_ret {o:Nat} {h:AHeap} {Q:AHeap→Prop} (hQ:Q h):WDef F 93 [.ptr o 0] .ret h Q:=by
 refine WDef.code F93 rfl ?_
 simp(disch:=(try simp only[hN]);omega)only[go_sem,simprocAttr,eqT,eqK]
 exact hQ
theorem frecover_stop {o v1:Nat} {h:AHeap} {x1:AV} {Q:AHeap→Prop} (hG:GH h) (ho:h.get o=some ⟨v1,.cells .own 0 [x1]⟩) (hon:o<h.n)
  (hQ:∀h',h.n≤h'.n→(∀c,c<h.n→c≠o→h'.get c=h.get c)→(∃v,h'.get o=some ⟨v,.cells .own 0 [errAV 9]⟩)→Q h') :
  WDef F 93 [.ptr o 0] (.pan (.iface 145 (.agg []))) h Q:=by
 refine WDef.code F93 rfl ?_
 have g0:h.get 0=some ⟨0,.cells .ro 0 [errAV 9]⟩:=hG.gl 0 (by decide)
 have hn0:=hG.n
 have d1:decide (h.n=o)=false:=decide_eq_false (by omega)
 simp(disch:=(try simp only[hN]);omega)only[go_sem,simprocAttr,eqT,eqK,Nat.beq_refl,List.getElem?_cons_zero,ho,d1,g0]
 exact hQ _ (by simp only[AHeap.alloc_n,AHeap.upd_n];omega) (fun c hc h1=>by simp(disch:=(try simp only[hN]);omega)only[go_sem,simprocAttr]) ⟨v1+1,by simp(disch:=(try simp only[hN]);omega)only[go_sem,simprocAttr]⟩
def FormQ (h:AHeap) (Q:QR) (b:Bool):Prop:=∀h',Fr h.n h h'→Q (.ret (bif b then .nilIface else errAV 9)) h'
theorem inForm_spec {fid:Nat} {cap:List AV} {b:Bool} {h:AHeap} {Q:QR} (hG:GH h) (body:∀h1 Q1,Fr h.n h h1→GH h1→AskQ h1 Q1 b→WF F fid (.agg []::cap) h1 Q1) (hQ:FormQ h Q b) :
  WF F 51 [.func (.func fid) [] cap] h Q:=by
 refine WF.code F51 rfl ?_
 simp(disch:=(try simp only[hN]);omega)only[go_sem,simprocAttr]
 have f0:Fr h.n h (h.alloc (.cells .own 0 [.nilIface])):=⟨by (try simp only[hN]);omega,fun b hb hne=>by (try simp only[hN] at hb hne);simp(disch:=(try simp only[hN]);omega)only[go_sem,simprocAttr]⟩
 refine body _ _ f0 (hG.alloc _) ?_
 intro h1 f1
 have hn1:=f1.n;try simp only[hN] at hn1
 have hG1:GH h1:=f1.gh (by have:=hG.n;simp(disch:=(try simp only[hN]);omega)only[go_sem,simprocAttr];omega) (hG.alloc _)
 have q1:h1.get h.n=some ⟨0,.cells .own 0 [.nilIface]⟩:=by simp(disch:=(try simp only[hN]);omega)only[go_sem,simprocAttr,f1.old]
 constructor
 ·rintro rfl
  simp(disch:=(try simp only[hN]);omega)only[go_sem,simprocAttr,q1]
  refine frecover_ret ?_
  simp(disch:=(try simp only[hN]);omega)only[go_sem,simprocAttr,q1]
  exact hQ _ ⟨by (try simp only[hN]);omega,fun b hb hne=>by (try simp only[hN] at hb hne);simp(disch:=(try simp only[hN]);omega)only[go_sem,simprocAttr,f1.old]⟩
 ·rintro rfl
  simp(disch:=(try simp only[hN]);omega)only[go_sem,simprocAttr,formStop]
  refine frecover_stop hG1 q1 (by omega) ?_
  rintro h2 hn2 hf2 ⟨v2,q2⟩
  simp(disch:=(try simp only[hN]);omega)only[go_sem,simprocAttr,q2]
  exact hQ _ ⟨by omega,fun b hb _=>by rw[hf2 _ (by omega) (by omega),f1.old _ (by simp only[hN];omega) (by simp only[hN];omega)];simp(disch:=(try simp only[hN]);omega)only[go_sem,simprocAttr]⟩
end Go.Ev
namespace Go.Ev
attribute [go_sem] ndC
open Go
set_option maxRecDepth 100000
set_option maxHeartbeats 4000000
theorem RowsS.get {lo:Nat} {h:AHeap}:{ns:List Nd}→{css:List AV}→RowsR lo h ns css→∀{i:Nat} (hi:i<ns.length),∃kv,row css (i*9) 9=some (ndC ns[i] kv)∧KidsR lo h ns[i].kids kv
 | _,_,.nil,i,hi=>absurd hi (Nat.not_lt_zero _)
 | _,_,.cons (n:=n) (ns:=ns) (kv:=kv) (css:=css) k r,0,_=>by
  refine ⟨kv,?_,k⟩
  have:((ndC n kv++css).drop 0).take 9=ndC n kv:=by simp [ndC]
  unfold row
  rw[Nat.zero_mul,ble_nat,decide_eq_true (by simp [ndC])]
  simp [ndC]
 | _,_,.cons (n:=n) (ns:=ns) (kv:=kv) (css:=css) k r,i+1,hi=>by
  obtain ⟨kv',h1,h2⟩:=r.get (i:=i) (by simpa using hi)
  refine ⟨kv',?_,h2⟩
  have e:(i+1)*9=i*9+1+1+1+1+1+1+1+1+1:=by omega
  rw[e]
  simp only[ndC,List.cons_append,List.nil_append,row_tl]
  exact h1
theorem KidsR.len {lo:Nat} {h:AHeap} {ns:List Nd} {v:AV} (k:KidsR lo h ns v):lenA v=some (ns.length:Int):=by
 cases k<;>rfl
theorem KidsR.small {lo:Nat} {h:AHeap} {ns:List Nd} {v:AV} (k:KidsR lo h ns v):ns.length<2^61:=by
 cases k with
 | nil=>simp
 | emp=>simp
 | row _ h0 _ _ _ _ _=>exact h0
end Go.Ev
namespace Go.Ev
open Go
set_option maxRecDepth 100000
set_option maxHeartbeats 4000000
def rkR (i:Nat):List Bs:=rks.getD i []
theorem rkOf_drop:∀(i:Nat) (s:Bs),i<5→rkOf i (rks.drop i) s=if (rkR i).contains s then i+1 else rkOf (i+1) (rks.drop (i+1)) s:=by
 intro i s hi
 match i,hi with
 | 0,_=>rfl
 | 1,_=>rfl
 | 2,_=>rfl
 | 3,_=>rfl
 | 4,_=>rfl
theorem contains_take {l:List Bs} {s:Bs} {j:Nat} (hj:j<l.length):(l.take (j+1)).contains s=((l.take j).contains s||l[j]==s):=by
 rw[List.take_succ_eq_append_getElem hj]
 rw[Bool.eq_iff_iff,Bool.or_eq_true,List.contains_iff_mem,List.contains_iff_mem,List.mem_append,List.mem_singleton,beq_iff_eq]
 exact or_congr Iff.rfl ⟨Eq.symm,Eq.symm⟩
theorem rank_spec {s:Bs} {h:AHeap} {Q:QR} (hQ:∀h',Fr h.n h h'→Q (.ret (.int .i64 (rankN s:Int))) h'):WF F 98 [.str s] h Q:=by
 refine WF.code F98 rfl ?_
 simp(disch:=(try simp only[hN]);omega)only[go_sem,simprocAttr]
 generalize hH:AHeap.alloc _ _=H
 have hb:∀i,i<5→H.get (h.n+i)=some ⟨0,.cells .own 1 ((rkR i).map .str)⟩:=by
  intro i hi
  match i,hi with
  | 0,_=>rw[←hH];(first|(simp(disch:=(try simp only[hN]);omega)only[go_sem,simprocAttr];done)|(simp(disch:=(try simp only[hN]);omega)only[go_sem,simprocAttr];rfl))
  | 1,_=>rw[←hH];(first|(simp(disch:=(try simp only[hN]);omega)only[go_sem,simprocAttr];done)|(simp(disch:=(try simp only[hN]);omega)only[go_sem,simprocAttr];rfl))
  | 2,_=>rw[←hH];(first|(simp(disch:=(try simp only[hN]);omega)only[go_sem,simprocAttr];done)|(simp(disch:=(try simp only[hN]);omega)only[go_sem,simprocAttr];rfl))
  | 3,_=>rw[←hH];(first|(simp(disch:=(try simp only[hN]);omega)only[go_sem,simprocAttr];done)|(simp(disch:=(try simp only[hN]);omega)only[go_sem,simprocAttr];rfl))
  | 4,_=>rw[←hH];(first|(simp(disch:=(try simp only[hN]);omega)only[go_sem,simprocAttr];done)|(simp(disch:=(try simp only[hN]);omega)only[go_sem,simprocAttr];rfl))
 have hf:Fr h.n h H:=by rw[←hH];exact ⟨by (try simp only[hN]);omega,fun b hb hne=>by (try simp only[hN] at hb hne);simp(disch:=(try simp only[hN]);omega)only[go_sem,simprocAttr]⟩
 clear hH
 refine wp_loop (fun n a h'=>∃i:Nat,n=5-i∧i≤5∧h'=H∧rankN s=rkOf i (rks.drop i) s∧a.tm.get 0=some (.str s)∧a.tm.get 12=some (.agg ((List.range 5).map fun i=>.slice (h.n+i) 0 (rkR i).length (rkR i).length true))∧a.tm.get 13=some (.int .i64 (i:Int))∧a.df=[]) ?_ 5 ?_
 ·rintro n ⟨t,df⟩ h2 ⟨i,hn,hi,rfl,hr,k0,k12,k13,hdf⟩
  simp only at k0 k12 k13 hdf
  subst hdf
  simp(disch:=(try simp only[hN]);omega)only[go_sem,simprocAttr,k13]
  (first|refine kA (fun hlt=>?_) (fun hlt=>?_)|refine kB (fun hlt=>?_) (fun hlt=>?_)|refine kC (fun hlt=>?_) (fun hlt=>?_)|refine kD (fun hlt=>?_) (fun hlt=>?_)|refine kE (fun hlt=>?_) (fun hlt=>?_)|refine kF (fun hlt=>?_) (fun hlt=>?_))
  ·have hil:i<5:=(by have:=of_decide_eq_true hlt;omega)
   have hget:((List.range 5).map fun i=>AV.slice (h.n+i) 0 (rkR i).length (rkR i).length true)[i]?=some (.slice (h.n+i) 0 (rkR i).length (rkR i).length true):=by simp [hil]
   have hc1:(decide ((0:Int)≤(i:Int))&&decide ((i:Int)<((5:Nat):Int)))=true:=by simp;omega
   have hbi:=hb i hil
   have hrd:=rkOf_drop i s hil
   have hRl:(rkR i).length≤6:=by
    match i,hil with
    | 0,_|1,_|2,_|3,_|4,_=>decide
   generalize hl:((List.range 5).map fun i=>AV.slice (h.n+i) 0 (rkR i).length (rkR i).length true)=arr at k12 hget
   generalize rkR i=R at hget hbi hrd hRl
   have hl2:=hl
   simp only[List.range,List.range.loop,List.map_cons,List.map_nil] at hl2
   simp(disch:=(try simp only[hN]);omega)only[go_sem,simprocAttr,k0,k12,k13,hget,hc1,Int.toNat_natCast,Nat.mul_one]
   refine wp_loop (fun n a h'=>∃j:Nat,n=R.length-j∧j≤R.length∧h'=h2∧(R.take j).contains s=false∧a.tm.get 0=some (.str s)∧a.tm.get 3=some (.int .i64 (i:Int))∧a.tm.get 12=some (.agg arr)∧a.tm.get 13=some (.int .i64 (i:Int))∧a.tm.get 17=some (.slice (h.n+i) 0 R.length R.length true)∧a.tm.get 18=some (.int .i64 (R.length:Int))∧a.tm.get 19=some (.int .i64 (j:Int))∧a.df=[]) ?_ R.length ?_
   ·rintro n2 ⟨t2,df2⟩ h3 ⟨j,hn2,hj,rfl,hcn,q0,q3,q12,q13,q17,q18,q19,hdf2⟩
    simp only at q0 q3 q12 q13 q17 q18 q19 hdf2
    subst hdf2
    simp(disch:=(try simp only[hN]);omega)only[go_sem,simprocAttr,q18,q19]
    (first|refine kA (fun hlt2=>?_) (fun hlt2=>?_)|refine kB (fun hlt2=>?_) (fun hlt2=>?_)|refine kC (fun hlt2=>?_) (fun hlt2=>?_)|refine kD (fun hlt2=>?_) (fun hlt2=>?_)|refine kE (fun hlt2=>?_) (fun hlt2=>?_)|refine kF (fun hlt2=>?_) (fun hlt2=>?_))
    ·have hjl:j<R.length:=(by have:=of_decide_eq_true hlt2;omega)
     have hcj:=contains_take (s:=s) hjl
     have hgj:(R.map AV.str)[j]?=some (.str R[j]):=by rw[List.getElem?_map,List.getElem?_eq_getElem hjl];rfl
     have hc2:(decide ((0:Int)≤(j:Int))&&decide ((j:Int)<((R.length:Nat):Int)))=true:=by simp;omega
     generalize R[j]=w at hcj hgj
     simp(disch:=(try simp only[hN]);omega)only[go_sem,simprocAttr,q0,q3,q17,q19,hbi,hgj,hc2,Int.toNat_natCast,Nat.mul_one,Nat.zero_add]
     (first|refine kA (fun he=>?_) (fun he=>?_)|refine kB (fun he=>?_) (fun he=>?_)|refine kC (fun he=>?_) (fun he=>?_)|refine kD (fun he=>?_) (fun he=>?_)|refine kE (fun he=>?_) (fun he=>?_)|refine kF (fun he=>?_) (fun he=>?_))
     ·simp(disch:=(try simp only[hN]);omega)only[go_sem,simprocAttr,q3]
      have hin:R.contains s=true:=by
       have:(R.take (j+1)).contains s=true:=by rw[hcj,he,Bool.or_true]
       simp only[List.contains_eq_mem,decide_eq_true_eq] at this ⊢
       exact List.mem_of_mem_take this
      rw[hr,hrd,if_pos hin] at hQ
      have e1:((i:Int)+1)=((i+1:Nat):Int):=by omega
      rw[e1]
      exact hQ _ hf
     ·simp(disch:=(try simp only[hN]);omega)only[go_sem,simprocAttr,q0,q3,q12,q13,q17,q18,q19]
      exact ⟨_,hn2 ▸ Nat.sub_lt_sub_left hjl (Nat.lt_succ_self j),j+1,rfl,hjl,by rw[hcj,hcn,he];rfl,rfl⟩
    ·have hjl:j=R.length:=by have:=of_decide_eq_false hlt2;omega
     subst hjl
     rw[List.take_length] at hcn
     simp(disch:=(try simp only[hN]);omega)only[go_sem,simprocAttr,q0,q12,q13]
     refine ⟨_,hn ▸ Nat.sub_lt_sub_left hil (Nat.lt_succ_self i),i+1,rfl,hil,?_,?_,rfl⟩
     rotate_left
     ·rw[←hl];rfl
     rw[hr,hrd,hcn]
     rfl
   ·refine ⟨0,rfl,Nat.zero_le _,rfl,rfl,?_,?_,?_,?_,?_,?_,?_,rfl⟩
    ·simp(disch:=(try simp only[hN]);omega)only[go_sem,simprocAttr,k0]
    ·simp(disch:=(try simp only[hN]);omega)only[go_sem,simprocAttr]
    ·clear hl hl2 hQ hr hrd;simp(disch:=(try simp only[hN]);omega)only[go_sem,simprocAttr,k12]
    ·simp(disch:=(try simp only[hN]);omega)only[go_sem,simprocAttr,k13]
    ·simp(disch:=(try simp only[hN]);omega)only[go_sem,simprocAttr]
    ·simp(disch:=(try simp only[hN]);omega)only[go_sem,simprocAttr]
    ·simp(disch:=(try simp only[hN]);omega)only[go_sem,simprocAttr]
  ·have hil:i=5:=by have:=of_decide_eq_false hlt;omega
   subst hil
   simp(disch:=(try simp only[hN]);omega)only[go_sem,simprocAttr]
   rw[hr] at hQ
   exact hQ _ hf
 ·exact ⟨0,rfl,Nat.zero_le _,rfl,rfl,by simp(disch:=(try simp only[hN]);omega)only[go_sem,simprocAttr],by (first|(simp(disch:=(try simp only[hN]);omega)only[go_sem,simprocAttr];done)|(simp(disch:=(try simp only[hN]);omega)only[go_sem,simprocAttr];rfl)),by simp(disch:=(try simp only[hN]);omega)only[go_sem,simprocAttr],rfl⟩
theorem nodes_spec:∀(s:Nat) {nd:Nd},nd.count≤s→∀{m lo:Nat} {h:AHeap} {kv:AV} {Q:QR},m<2^62→KidsR lo h nd.kids kv→(∀h',Fr h.n h h'→Q (.ret (.int .i64 ((min nd.count (m+1):Nat):Int))) h')→WF F 11 [.agg (ndC nd kv),.int .i64 (m:Int)] h Q:=by
 intro s
 induction s with
 | zero=>intro nd h0;cases nd;simp [Nd.count] at h0
 | succ s ih=>
  intro nd hs m lo h kv Q hm hk hQ
  have hcnt:nd.count=1+cntL nd.kids:=by cases nd;rfl
  have hsm:=hk.small
  generalize nd.kids=ks at hk hcnt hsm
  refine WF.code F11 rfl ?_
  simp(disch:=(try simp only[hN]);omega)only[go_sem,simprocAttr,hk.flat.1,hk.flat.2,hk.len]
  refine wp_loop (fun n a h'=>∃i:Nat,n=ks.length-i∧i≤ks.length∧Fr h.n h h'∧a.tm.get 1=some (.int .i64 (m:Int))∧a.tm.get 5=some (.int .i64 ((min (1+cntL (ks.take i)) (m+1):Nat):Int))∧a.tm.get 9=some kv∧a.tm.get 10=some (.int .i64 (ks.length:Int))∧a.tm.get 11=some (.int .i64 (i:Int))∧a.df=[]) ?_ ks.length ?_
  ·rintro n ⟨t,df⟩ h2 ⟨i,hn,hi,hf2,k1,k5,k9,k10,k11,hdf⟩
   simp only at k1 k5 k9 k10 k11 hdf
   subst hdf
   have hn2:=hf2.n;try simp only[hN] at hn2
   simp(disch:=(try simp only[hN]);omega)only[go_sem,simprocAttr,k10,k11]
   (first|refine kA (fun hlt=>?_) (fun hlt=>?_)|refine kB (fun hlt=>?_) (fun hlt=>?_)|refine kC (fun hlt=>?_) (fun hlt=>?_)|refine kD (fun hlt=>?_) (fun hlt=>?_)|refine kE (fun hlt=>?_) (fun hlt=>?_)|refine kF (fun hlt=>?_) (fun hlt=>?_))
   ·have hil:i<ks.length:=(by have:=of_decide_eq_true hlt;omega)
    have hstep:=cntL_take hil
    have hle:=cntL_le (ns:=ks) (i+1)
    cases hk with
    | nil=>simp at hil
    | emp=>simp at hil
    | row g1 g0 g2 g3 g4 gr g5=>
     rename_i b ver o c md ex bs css
     obtain ⟨kv',hr,hk'⟩:=g5.get hil
     rw[←row_sub (o:=o) gr (by omega)] at hr
     have g4':h2.get b=some ⟨ver,.cells md 9 bs⟩:=by rw[hf2.all g3];exact g4
     generalize ks[i]=nd1 at hr hk' hstep
     generalize hc:min (1+cntL (ks.take i)) (m+1)=c0 at k5
     simp(disch:=(try simp only[hN]);omega)only[go_sem,simprocAttr,k1,k5,k9,k10,k11,Int.toNat_natCast,g4',hr,hk'.flat.1,hk'.flat.2]
     (first|refine kA (fun hbig=>?_) (fun hbig=>?_)|refine kB (fun hbig=>?_) (fun hbig=>?_)|refine kC (fun hbig=>?_) (fun hbig=>?_)|refine kD (fun hbig=>?_) (fun hbig=>?_)|refine kE (fun hbig=>?_) (fun hbig=>?_)|refine kF (fun hbig=>?_) (fun hbig=>?_))
     ·have hcm:m<c0:=(by have:=of_decide_eq_true hbig;omega)
      simp(disch:=(try simp only[hN]);omega)only[go_sem,simprocAttr,k1]
      have:((m:Int)+1)=((min nd.count (m+1):Nat):Int):=by omega
      rw[this]
      exact hQ _ ⟨by (try simp only[hN]);omega,fun b hb hne=>by (try simp only[hN] at hb hne);simp(disch:=(try simp only[hN]);omega)only[go_sem,simprocAttr,hf2.old]⟩
     ·have hcm:c0≤m:=(by have:=of_decide_eq_false hbig;omega)
      have e1:((m:Int)-(c0:Int))=((m-c0:Nat):Int):=by omega
      simp(disch:=(try simp only[hN]);omega)only[go_sem,simprocAttr,k1,k5,hk'.flat.1,hk'.flat.2,e1]
      refine ih (by omega) (by omega) (hk'.keep (Nat.le_refl _) (by simp only[hN];omega) fun b' hb1 hb2=>?_) ?_
      ·simp(disch:=(try simp only[hN]);omega)only[go_sem,simprocAttr,hf2.old]
      ·intro h3 hf3
       have hn3:=hf3.n;try simp only[hN] at hn3
       have e2:((c0:Int)+((min nd1.count (m-c0+1):Nat):Int))=((min (1+cntL (ks.take (i+1))) (m+1):Nat):Int):=by omega
       simp(disch:=(try simp only[hN]);omega)only[go_sem,simprocAttr,k1,k5,k9,k10,k11]
       rw[e2]
       exact ⟨_,hn ▸ Nat.sub_lt_sub_left hil (Nat.lt_succ_self i),i+1,rfl,hil,⟨by (try simp only[hN]);omega,fun b hb hne=>by (try simp only[hN] at hb hne);simp(disch:=(try simp only[hN]);omega)only[go_sem,simprocAttr,hf3.old,hf2.old]⟩,rfl,rfl⟩
   ·have hil:i=ks.length:=by have:=of_decide_eq_false hlt;omega
    subst hil
    rw[List.take_length] at k5
    simp(disch:=(try simp only[hN]);omega)only[go_sem,simprocAttr,k5]
    rw[←hcnt]
    exact hQ _ hf2
  ·have e0:min (1+cntL (ks.take 0)) (m+1)=1:=by simp [cntL]
   refine ⟨0,rfl,Nat.zero_le _,⟨by (try simp only[hN]);omega,fun b hb hne=>by (try simp only[hN] at hb hne);simp(disch:=(try simp only[hN]);omega)only[go_sem,simprocAttr]⟩,?_⟩
   rw[e0]
   (first|(simp(disch:=(try simp only[hN]);omega)only[go_sem,simprocAttr];done)|(simp(disch:=(try simp only[hN]);omega)only[go_sem,simprocAttr];rfl))
theorem deep_spec:∀(s:Nat) {nd:Nd},nd.count≤s→∀{m lo:Nat} {h:AHeap} {kv:AV} {Q:QR},m<2^62→KidsR lo h nd.kids kv→(∀h',Fr h.n h h'→Q (.ret (.int .i64 ((min nd.depth (m+1):Nat):Int))) h')→WF F 12 [.agg (ndC nd kv),.int .i64 (m:Int)] h Q:=by
 intro s
 induction s with
 | zero=>intro nd h0;cases nd;simp [Nd.count] at h0
 | succ s ih=>
  intro nd hs m lo h kv Q hm hk hQ
  have hcnt:nd.count=1+cntL nd.kids:=by cases nd;rfl
  have hdpt:nd.depth=1+dptL nd.kids:=by cases nd;rfl
  have hsm:=hk.small
  generalize nd.kids=ks at hk hcnt hsm hdpt
  refine WF.code F12 rfl ?_
  simp(disch:=(try simp only[hN]);omega)only[go_sem,simprocAttr,hk.flat.1,hk.flat.2,hk.len]
  (first|refine kA (fun hz=>?_) (fun hz=>?_)|refine kB (fun hz=>?_) (fun hz=>?_)|refine kC (fun hz=>?_) (fun hz=>?_)|refine kD (fun hz=>?_) (fun hz=>?_)|refine kE (fun hz=>?_) (fun hz=>?_)|refine kF (fun hz=>?_) (fun hz=>?_))
  ·have:(m:Int)<1:=of_decide_eq_true hz
   simp(disch:=(try simp only[hN]);omega)only[go_sem,simprocAttr]
   have:(1:Int)=((min nd.depth (m+1):Nat):Int):=by omega
   rw[this]
   exact hQ _ ⟨by (try simp only[hN]);omega,fun b hb hne=>by (try simp only[hN] at hb hne);simp(disch:=(try simp only[hN]);omega)only[go_sem,simprocAttr]⟩
  have hm1:1≤m:=(by have:=of_decide_eq_false hz;omega)
  simp(disch:=(try simp only[hN]);omega)only[go_sem,simprocAttr,hk.flat.1,hk.flat.2,hk.len]
  refine wp_loop (fun n a h'=>∃i:Nat,n=ks.length-i∧i≤ks.length∧Fr h.n h h'∧a.tm.get 1=some (.int .i64 (m:Int))∧a.tm.get 5=some (.int .i64 ((min (dptL (ks.take i)) m:Nat):Int))∧a.tm.get 12=some kv∧a.tm.get 13=some (.int .i64 (ks.length:Int))∧a.tm.get 14=some (.int .i64 (i:Int))∧a.df=[]) ?_ ks.length ?_
  ·rintro n ⟨t,df⟩ h2 ⟨i,hn,hi,hf2,k1,k5,k9,k10,k11,hdf⟩
   simp only at k1 k5 k9 k10 k11 hdf
   subst hdf
   have hn2:=hf2.n;try simp only[hN] at hn2
   simp(disch:=(try simp only[hN]);omega)only[go_sem,simprocAttr,k10,k11]
   (first|refine kA (fun hlt=>?_) (fun hlt=>?_)|refine kB (fun hlt=>?_) (fun hlt=>?_)|refine kC (fun hlt=>?_) (fun hlt=>?_)|refine kD (fun hlt=>?_) (fun hlt=>?_)|refine kE (fun hlt=>?_) (fun hlt=>?_)|refine kF (fun hlt=>?_) (fun hlt=>?_))
   ·have hil:i<ks.length:=(by have:=of_decide_eq_true hlt;omega)
    have hstep:=cntL_take hil
    have hle:=cntL_le (ns:=ks) (i+1)
    have hdst:=dptL_take hil
    cases hk with
    | nil=>simp at hil
    | emp=>simp at hil
    | row g1 g0 g2 g3 g4 gr g5=>
     rename_i b ver o c md ex bs css
     obtain ⟨kv',hr,hk'⟩:=g5.get hil
     rw[←row_sub (o:=o) gr (by omega)] at hr
     have g4':h2.get b=some ⟨ver,.cells md 9 bs⟩:=by rw[hf2.all g3];exact g4
     generalize ks[i]=nd1 at hr hk' hstep hdst
     have e1:((m:Int)-1)=((m-1:Nat):Int):=by omega
     simp(disch:=(try simp only[hN]);omega)only[go_sem,simprocAttr,k1,k5,k9,k10,k11,Int.toNat_natCast,g4',hr,hk'.flat.1,hk'.flat.2,e1]
     refine ih (by omega) (by omega) (hk'.keep (Nat.le_refl _) (by simp only[hN];omega) fun b' hb1 hb2=>?_) ?_
     ·simp(disch:=(try simp only[hN]);omega)only[go_sem,simprocAttr,hf2.old]
     ·intro h3 hf3
      have hn3:=hf3.n;try simp only[hN] at hn3
      have e3:m-1+1=m:=by omega
      rw[e3]
      generalize hd:min (dptL (ks.take i)) m=d0 at k5
      generalize hx:min nd1.depth m=x0
      simp(disch:=(try simp only[hN]);omega)only[go_sem,simprocAttr,k1,k5,k9,k10,k11]
      (first|refine kA (fun hg=>?_) (fun hg=>?_)|refine kB (fun hg=>?_) (fun hg=>?_)|refine kC (fun hg=>?_) (fun hg=>?_)|refine kD (fun hg=>?_) (fun hg=>?_)|refine kE (fun hg=>?_) (fun hg=>?_)|refine kF (fun hg=>?_) (fun hg=>?_))
      ·have:d0<x0:=(by have:=of_decide_eq_true hg;omega)
       have e2:x0=min (dptL (ks.take (i+1))) m:=by omega
       simp(disch:=(try simp only[hN]);omega)only[go_sem,simprocAttr,k1,k5,k9,k10,k11]
       exact ⟨_,hn ▸ Nat.sub_lt_sub_left hil (Nat.lt_succ_self i),i+1,rfl,hil,⟨by (try simp only[hN]);omega,fun b hb hne=>by (try simp only[hN] at hb hne);simp(disch:=(try simp only[hN]);omega)only[go_sem,simprocAttr,hf3.old,hf2.old]⟩,by rw[e2],rfl⟩
      ·have:x0≤d0:=(by have:=of_decide_eq_false hg;omega)
       have e2:d0=min (dptL (ks.take (i+1))) m:=by omega
       simp(disch:=(try simp only[hN]);omega)only[go_sem,simprocAttr,k1,k5,k9,k10,k11]
       exact ⟨_,hn ▸ Nat.sub_lt_sub_left hil (Nat.lt_succ_self i),i+1,rfl,hil,⟨by (try simp only[hN]);omega,fun b hb hne=>by (try simp only[hN] at hb hne);simp(disch:=(try simp only[hN]);omega)only[go_sem,simprocAttr,hf3.old,hf2.old]⟩,by rw[e2],rfl⟩
   ·have hil:i=ks.length:=by have:=of_decide_eq_false hlt;omega
    subst hil
    rw[List.take_length] at k5
    generalize hd:min (dptL ks) m=d0 at k5
    simp(disch:=(try simp only[hN]);omega)only[go_sem,simprocAttr,k5]
    have:((d0:Int)+1)=((min nd.depth (m+1):Nat):Int):=by omega
    rw[this]
    exact hQ _ hf2
  ·have e0:min (dptL (ks.take 0)) m=0:=by simp [dptL]
   refine ⟨0,rfl,Nat.zero_le _,⟨by (try simp only[hN]);omega,fun b hb hne=>by (try simp only[hN] at hb hne);simp(disch:=(try simp only[hN]);omega)only[go_sem,simprocAttr]⟩,?_⟩
   rw[e0]
   (first|(simp(disch:=(try simp only[hN]);omega)only[go_sem,simprocAttr];done)|(simp(disch:=(try simp only[hN]);omega)only[go_sem,simprocAttr];rfl))
theorem long_spec:∀(s:Nat) {nd:Nd},nd.count≤s→∀{lo:Nat} {h:AHeap} {kv:AV} {Q:QR},KidsR lo h nd.kids kv→(∀h',Fr h.n h h'→Q (.ret (.bool nd.longB)) h')→WF F 55 [.agg (ndC nd kv)] h Q:=by
 intro s
 induction s with
 | zero=>intro nd h0;cases nd;simp [Nd.count] at h0
 | succ s ih=>
  intro nd hs lo h kv Q hk hQ
  have hcnt:nd.count=1+cntL nd.kids:=by cases nd;rfl
  have hlg:=longB_eq nd
  have hsm:=hk.small
  generalize nd.kids=ks at hk hcnt hsm hlg
  refine WF.code F55 rfl ?_
  simp(disch:=(try simp only[hN]);omega)only[go_sem,simprocAttr,hk.flat.1,hk.flat.2,hk.len]
  (first|refine kA (fun hz=>?_) (fun hz=>?_)|refine kB (fun hz=>?_) (fun hz=>?_)|refine kC (fun hz=>?_) (fun hz=>?_)|refine kD (fun hz=>?_) (fun hz=>?_)|refine kE (fun hz=>?_) (fun hz=>?_)|refine kF (fun hz=>?_) (fun hz=>?_))
  ·have:300<nd.name.length:=(by have:=of_decide_eq_true hz;omega)
   simp(disch:=(try simp only[hN]);omega)only[go_sem,simprocAttr]
   refine useB (hQ _ ⟨by (try simp only[hN]);omega,fun b hb hne=>by (try simp only[hN] at hb hne);simp(disch:=(try simp only[hN]);omega)only[go_sem,simprocAttr]⟩) ?_
   rw[hlg,decide_eq_true this,Bool.true_or]
  have hz1:¬300<nd.name.length:=(by have:=of_decide_eq_false hz;omega)
  rw[decide_eq_false hz1,Bool.false_or] at hlg
  simp(disch:=(try simp only[hN]);omega)only[go_sem,simprocAttr,hk.flat.1,hk.flat.2,hk.len]
  refine wp_loop (fun n a h'=>∃i:Nat,n=ks.length-i∧i≤ks.length∧Fr h.n h h'∧longsB (ks.take i)=false∧a.tm.get 10=some kv∧a.tm.get 11=some (.int .i64 (ks.length:Int))∧a.tm.get 12=some (.int .i64 (i:Int))∧a.df=[]) ?_ ks.length ?_
  ·rintro n ⟨t,df⟩ h2 ⟨i,hn,hi,hf2,hl0,k10,k11,k12,hdf⟩
   simp only at k10 k11 k12 hdf
   subst hdf
   have hn2:=hf2.n;try simp only[hN] at hn2
   simp(disch:=(try simp only[hN]);omega)only[go_sem,simprocAttr,k11,k12]
   (first|refine kA (fun hlt=>?_) (fun hlt=>?_)|refine kB (fun hlt=>?_) (fun hlt=>?_)|refine kC (fun hlt=>?_) (fun hlt=>?_)|refine kD (fun hlt=>?_) (fun hlt=>?_)|refine kE (fun hlt=>?_) (fun hlt=>?_)|refine kF (fun hlt=>?_) (fun hlt=>?_))
   ·have hil:i<ks.length:=(by have:=of_decide_eq_true hlt;omega)
    have hstep:=cntL_take hil
    have hle:=cntL_le (ns:=ks) (i+1)
    have hlst:=longsB_take hil
    have htr:=longsB_true hil
    cases hk with
    | nil=>simp at hil
    | emp=>simp at hil
    | row g1 g0 g2 g3 g4 gr g5=>
     rename_i b ver o c md ex bs css
     obtain ⟨kv',hr,hk'⟩:=g5.get hil
     rw[←row_sub (o:=o) gr (by omega)] at hr
     have g4':h2.get b=some ⟨ver,.cells md 9 bs⟩:=by rw[hf2.all g3];exact g4
     generalize ks[i]=nd1 at hr hk' hstep hlst htr
     simp(disch:=(try simp only[hN]);omega)only[go_sem,simprocAttr,k10,k11,k12,Int.toNat_natCast,g4',hr,hk'.flat.1,hk'.flat.2]
     refine ih (by omega) (hk'.keep (Nat.le_refl _) (by simp only[hN];omega) fun b' hb1 hb2=>?_) ?_
     ·simp(disch:=(try simp only[hN]);omega)only[go_sem,simprocAttr,hf2.old]
     ·intro h3 hf3
      have hn3:=hf3.n;try simp only[hN] at hn3
      cases hb:nd1.longB with
      | true=>
       simp(disch:=(try simp only[hN]);omega)only[go_sem,simprocAttr]
       refine useB (hQ _ ⟨by (try simp only[hN]);omega,fun b hb hne=>by (try simp only[hN] at hb hne);simp(disch:=(try simp only[hN]);omega)only[go_sem,simprocAttr,hf3.old,hf2.old]⟩) ?_
       rw[hlg,htr hb]
      | false=>
       simp(disch:=(try simp only[hN]);omega)only[go_sem,simprocAttr,k10,k11,k12]
       exact ⟨_,hn ▸ Nat.sub_lt_sub_left hil (Nat.lt_succ_self i),i+1,rfl,hil,⟨by (try simp only[hN]);omega,fun b hb hne=>by (try simp only[hN] at hb hne);simp(disch:=(try simp only[hN]);omega)only[go_sem,simprocAttr,hf3.old,hf2.old]⟩,by rw[hlst,hl0,hb];rfl,rfl⟩
   ·have hil:i=ks.length:=by have:=of_decide_eq_false hlt;omega
    subst hil
    rw[List.take_length] at hl0
    simp(disch:=(try simp only[hN]);omega)only[go_sem,simprocAttr]
    refine useB (hQ _ hf2) ?_
    rw[hlg,hl0]
  ·exact ⟨0,rfl,Nat.zero_le _,⟨by (try simp only[hN]);omega,fun b hb hne=>by (try simp only[hN] at hb hne);simp(disch:=(try simp only[hN]);omega)only[go_sem,simprocAttr]⟩,rfl,by simp(disch:=(try simp only[hN]);omega)only[go_sem,simprocAttr],by simp(disch:=(try simp only[hN]);omega)only[go_sem,simprocAttr],by simp(disch:=(try simp only[hN]);omega)only[go_sem,simprocAttr],rfl⟩
def bigB (n:Nd):Bool:=decide (3000<n.count)||decide (200<n.depth)||n.longB
theorem big_spec {nd:Nd} {lo:Nat} {h:AHeap} {kv:AV} {Q:QR} (hk:KidsR lo h nd.kids kv) (hQ:∀h',Fr h.n h h'→Q (.ret (.bool (bigB nd))) h'):WF F 23 [.agg (ndC nd kv)] h Q:=by
 refine WF.code F23 rfl ?_
 simp(disch:=(try simp only[hN]);omega)only[go_sem,simprocAttr,hk.flat.1,hk.flat.2]
 have hk0:KidsR lo (h.alloc (.cells .own 0 (ndC nd kv))) nd.kids kv:=hk.keep (Nat.le_refl _) (by simp only[hN];omega) fun b' hb1 hb2=>by simp(disch:=(try simp only[hN]);omega)only[go_sem,simprocAttr]
 refine nodes_spec nd.count (Nat.le_refl _) (m:=3000) (by decide) hk0 ?_
 intro h1 f1
 have hn1:=f1.n;try simp only[hN] at hn1
 have q1:h1.get h.n=some ⟨0,.cells .own 0 (ndC nd kv)⟩:=by rw[f1.all (by simp only[hN];omega)];simp(disch:=(try simp only[hN]);omega)only[go_sem,simprocAttr]
 have hk1:KidsR lo h1 nd.kids kv:=hk0.fr f1 (.inr (Nat.le_refl _))
 simp(disch:=(try simp only[hN]);omega)only[go_sem,simprocAttr]
 (first|refine kA (fun e1=>?_) (fun e1=>?_)|refine kB (fun e1=>?_) (fun e1=>?_)|refine kC (fun e1=>?_) (fun e1=>?_)|refine kD (fun e1=>?_) (fun e1=>?_)|refine kE (fun e1=>?_) (fun e1=>?_)|refine kF (fun e1=>?_) (fun e1=>?_))
 ·have c1:¬3000<nd.count:=by have:=of_decide_eq_false e1;omega
  simp(disch:=(try simp only[hN]);omega)only[go_sem,simprocAttr,e1,q1,hk.flat.1,hk.flat.2]
  refine deep_spec nd.count (Nat.le_refl _) (m:=200) (by decide) hk1 ?_
  intro h2 f2
  have hn2:=f2.n;try simp only[hN] at hn2
  have q2:h2.get h.n=some ⟨0,.cells .own 0 (ndC nd kv)⟩:=by rw[f2.all (by omega)];exact q1
  have hk2:KidsR lo h2 nd.kids kv:=hk1.fr f2 (.inr (Nat.le_refl _))
  simp(disch:=(try simp only[hN]);omega)only[go_sem,simprocAttr,e1]
  (first|refine kA (fun e2=>?_) (fun e2=>?_)|refine kB (fun e2=>?_) (fun e2=>?_)|refine kC (fun e2=>?_) (fun e2=>?_)|refine kD (fun e2=>?_) (fun e2=>?_)|refine kE (fun e2=>?_) (fun e2=>?_)|refine kF (fun e2=>?_) (fun e2=>?_))
  ·have c2:¬200<nd.depth:=by have:=of_decide_eq_false e2;omega
   simp(disch:=(try simp only[hN]);omega)only[go_sem,simprocAttr,e2,q2,hk.flat.1,hk.flat.2]
   refine long_spec nd.count (Nat.le_refl _) hk2 ?_
   intro h3 f3
   have hn3:=f3.n;try simp only[hN] at hn3
   simp(disch:=(try simp only[hN]);omega)only[go_sem,simprocAttr,e2]
   refine useB (hQ _ ⟨by (try simp only[hN]);omega,fun b hb hne=>by (try simp only[hN] at hb hne);simp(disch:=(try simp only[hN]);omega)only[go_sem,simprocAttr,f3.old,f2.old,f1.old]⟩) ?_
   simp [bigB,c1,c2]
  ·have:200<nd.depth:=by have:=of_decide_eq_true e2;omega
   simp(disch:=(try simp only[hN]);omega)only[go_sem,simprocAttr,e2]
   refine useB (hQ _ ⟨by (try simp only[hN]);omega,fun b hb hne=>by (try simp only[hN] at hb hne);simp(disch:=(try simp only[hN]);omega)only[go_sem,simprocAttr,f2.old,f1.old]⟩) ?_
   simp [bigB,this]
 ·have:3000<nd.count:=by have:=of_decide_eq_true e1;omega
  simp(disch:=(try simp only[hN]);omega)only[go_sem,simprocAttr,e1]
  refine useB (hQ _ ⟨by (try simp only[hN]);omega,fun b hb hne=>by (try simp only[hN] at hb hne);simp(disch:=(try simp only[hN]);omega)only[go_sem,simprocAttr,f1.old]⟩) ?_
  simp [bigB,this]
section
variable {F:FT} (I:AAct→AHeap→Prop) {x x' z y:MCode} {c:AV} {i:Nat} {a:AAct} {h:AHeap} {K:Post}
theorem fbl_mono {K K':Post} (hK:∀e a h,K e a h→K' e a h) (e:AExit) (a:AAct) (h:AHeap) (w:blP i K e a h):blP i K' e a h:=by
 cases e with
 | exit j=>
  simp only[blP] at w ⊢
  cases hj:j.beq i<;>rw[hj] at w<;>exact hK _ _ _ w
 | norm=>simp only[blP] at w ⊢;exact hK _ _ _ w
 | ret=>simp only[blP] at w ⊢;exact hK _ _ _ w
 | pan v=>simp only[blP] at w ⊢;exact hK _ _ _ w
theorem fcut1 (w:condP (wpC F x) (wpC F x') c a h (blP i (cutP I K))) (hI:∀a h,I a h→wpC F y a h K):condP (wpC F x) (wpC F x') c a h (blP i (sqP (wpC F y) K)):=by
 unfold condP at w ⊢
 split at w
 ·exact wpC_mono x (fbl_mono (cutP_sq (F:=F) (I:=I) hI)) a h w
 ·exact wpC_mono x' (fbl_mono (cutP_sq (F:=F) (I:=I) hI)) a h w
 ·exact w
end
def hasC (nm:Bs) (k bits:Int):List AV:=[.int .i64 0,.int .i64 0,.str nm,.int .i64 0,.int .i64 k,.int .i64 0,.int .i64 0,.int .u64 bits,.nilSlice]
attribute [go_sem] hasC
theorem fexpr_spec:∀(s:Nat) {nd:Nd},nd.count≤s→∀{lo:Nat} {h:AHeap} {kv:AV} {Q:QR},GH h→KidsR lo h nd.kids kv→nd.longB=false→AskQ h Q nd.exprF→WF F 57 [.agg [],.agg (ndC nd kv)] h Q:=by
 intro s
 induction s with
 | zero=>intro nd h0;cases nd;simp [Nd.count] at h0
 | succ s ih=>
  intro nd hs lo h kv Q hG hk hlg hQ
  have hcnt:nd.count=1+cntL nd.kids:=by cases nd;rfl
  rw[longB_eq,Bool.or_eq_false_iff] at hlg
  have hnm:nd.name.length<2^62:=by have:=of_decide_eq_false hlg.1;omega
  rw[exprF_eq] at hQ
  have hsm:=hk.small
  have hlks:=hlg.2
  clear hlg
  generalize nd.kids=ks at hk hcnt hsm hlks hQ
  refine WF.code F57 rfl ?_
  simp(disch:=(try simp only[hN]);omega)only[go_sem,simprocAttr,hk.flat.1,hk.flat.2,hk.len]
  generalize hH:AHeap.upd _ _ _ _=H
  have Hn:H.n=h.n+3:=by rw[←hH];simp(disch:=(try simp only[hN]);omega)only[go_sem,simprocAttr]
  have H0:H.get h.n=some ⟨0,.cells .own 0 []⟩:=by rw[←hH];simp(disch:=(try simp only[hN]);omega)only[go_sem,simprocAttr]
  have H1:H.get (h.n+1)=some ⟨0,.cells .own 0 (ndC nd kv)⟩:=by rw[←hH];simp(disch:=(try simp only[hN]);omega)only[go_sem,simprocAttr]
  have H2:H.get (h.n+1+1)=some ⟨1,.cells .own 0 (hasC [] 0 0)⟩:=by rw[←hH];simp(disch:=(try simp only[hN]);omega)only[go_sem,simprocAttr]
  have Hf:Fr h.n h H:=by rw[←hH];exact ⟨by (try simp only[hN]);omega,fun b hb hne=>by (try simp only[hN] at hb hne);simp(disch:=(try simp only[hN]);omega)only[go_sem,simprocAttr]⟩
  have HG:GH H:=Hf.gh hG.n hG
  clear hH
  have hkf:=hk.flat
  refine fcut1 (fun a h'=>∃nm k bits m v5,Fr h.n h h'∧h.n+3≤h'.n∧h'.get h.n=some ⟨0,.cells .own 0 []⟩∧h'.get (h.n+1)=some ⟨0,.cells .own 0 (ndC nd kv)⟩∧h'.get (h.n+1+1)=some ⟨v5,.cells .own 0 (hasC nm k bits)⟩∧exprA nd=(bareB nd nm 0 k bits,m)∧a.tm.get 2=some (.ptr h.n 0)∧a.tm.get 3=some (.ptr (h.n+1) 0)∧a.tm.get 4=some (.int .i64 ((m:Nat):Int))∧a.tm.get 5=some (.ptr (h.n+1+1) 0)∧a.df=[]) ?_ ?_
  ·have hfr:∀h1,Fr H.n H h1→Fr h.n h h1:=fun h1 f1=>Hf.trans ⟨f1.n,fun b hb _=>f1.all (by omega)⟩
   have bad:∀{h1:AHeap} {m:Nat},Fr H.n H h1→exprA nd=(false,m)→Q formStop h1:=fun f1 hA=>(hQ _ (hfr _ f1)).2 (by rw[hA];rfl)
   (first|refine kA (fun e25=>?_) (fun e25=>?_)|refine kB (fun e25=>?_) (fun e25=>?_)|refine kC (fun e25=>?_) (fun e25=>?_)|refine kD (fun e25=>?_) (fun e25=>?_)|refine kE (fun e25=>?_) (fun e25=>?_)|refine kF (fun e25=>?_) (fun e25=>?_))
   ·have kd:nd.kind=25:=by simpa using e25
    have hA:exprA nd=(decide (0≤nd.n)&&bareB nd [] 0 nd.n 0,0):=by unfold exprA;rw[if_pos kd]
    simp(disch:=(try simp only[hN]);omega)only[go_sem,simprocAttr,H0,H1]
    refine need_spec fun h1 f1=>⟨fun hb=>?_,fun hb=>?_⟩
    ·have hn1:=f1.n;try simp only[hN] at hn1
     simp(disch:=(try simp only[hN]);omega)only[go_sem,simprocAttr,f1.all,Hn,H0,H1,H2]
     have hb':decide (0≤nd.n)=true:=hb
     exact ⟨[],nd.n,0,0,2,(hfr _ f1).updNew (by omega) _ _,by omega,rfl,by rw[hA,hb',Bool.true_and],rfl⟩
    ·simp(disch:=(try simp only[hN]);omega)only[go_sem,simprocAttr,formStop]
     have hb':decide (0≤nd.n)=false:=hb
     exact bad f1 (by rw[hA,hb',Bool.false_and])
   have k25:nd.kind≠25:=by simpa using e25
   simp(disch:=(try simp only[hN]);omega)only[go_sem,simprocAttr]
   (first|refine kA (fun e26=>?_) (fun e26=>?_)|refine kB (fun e26=>?_) (fun e26=>?_)|refine kC (fun e26=>?_) (fun e26=>?_)|refine kD (fun e26=>?_) (fun e26=>?_)|refine kE (fun e26=>?_) (fun e26=>?_)|refine kF (fun e26=>?_) (fun e26=>?_))
   ·have kd:nd.kind=26:=by simpa using e26
    have hA:exprA nd=(bareB nd [] 0 0 nd.bits,0):=by unfold exprA;rw[if_neg k25,if_pos kd]
    simp(disch:=(try simp only[hN]);omega)only[go_sem,simprocAttr,H0,H1,H2]
    exact ⟨[],0,nd.bits,0,2,(hfr _ (Fr.refl _ _)).updNew (by omega) _ _,by omega,rfl,hA,rfl⟩
   have k26:nd.kind≠26:=by simpa using e26
   simp(disch:=(try simp only[hN]);omega)only[go_sem,simprocAttr]
   (first|refine kA (fun e27=>?_) (fun e27=>?_)|refine kB (fun e27=>?_) (fun e27=>?_)|refine kC (fun e27=>?_) (fun e27=>?_)|refine kD (fun e27=>?_) (fun e27=>?_)|refine kE (fun e27=>?_) (fun e27=>?_)|refine kF (fun e27=>?_) (fun e27=>?_))
   ·have kd:nd.kind=27:=by simpa using e27
    have hA:exprA nd=(((nd.n==0)||(nd.n==1))&&bareB nd [] 0 nd.n 0,0):=by unfold exprA;rw[if_neg k25,if_neg k26,if_pos kd]
    simp(disch:=(try simp only[hN]);omega)only[go_sem,simprocAttr,H0,H1]
    (first|refine kA (fun g0=>?_) (fun g0=>?_)|refine kB (fun g0=>?_) (fun g0=>?_)|refine kC (fun g0=>?_) (fun g0=>?_)|refine kD (fun g0=>?_) (fun g0=>?_)|refine kE (fun g0=>?_) (fun g0=>?_)|refine kF (fun g0=>?_) (fun g0=>?_))<;>simp(disch:=(try simp only[hN]);omega)only[go_sem,simprocAttr,g0,H1]
    ·refine need_spec fun h1 f1=>⟨fun hb=>?_,fun hb=>?_⟩
     ·have hn1:=f1.n;try simp only[hN] at hn1
      simp(disch:=(try simp only[hN]);omega)only[go_sem,simprocAttr,f1.all,Hn,H0,H1,H2]
      exact ⟨[],nd.n,0,0,2,(hfr _ f1).updNew (by omega) _ _,by omega,rfl,by rw[hA,hb,Bool.or_true,Bool.true_and],rfl⟩
     ·simp(disch:=(try simp only[hN]);omega)only[go_sem,simprocAttr,formStop]
      exact bad f1 (by rw[hA,g0,hb];rfl)
    ·refine need_spec fun h1 f1=>⟨fun _=>?_,fun hb=>(by cases hb)⟩
     have hn1:=f1.n;try simp only[hN] at hn1
     simp(disch:=(try simp only[hN]);omega)only[go_sem,simprocAttr,f1.all,Hn,H0,H1,H2]
     exact ⟨[],nd.n,0,0,2,(hfr _ f1).updNew (by omega) _ _,by omega,rfl,by rw[hA,g0,Bool.true_or,Bool.true_and],rfl⟩
   have k27:nd.kind≠27:=by simpa using e27
   simp(disch:=(try simp only[hN]);omega)only[go_sem,simprocAttr]
   (first|refine kA (fun e28=>?_) (fun e28=>?_)|refine kB (fun e28=>?_) (fun e28=>?_)|refine kC (fun e28=>?_) (fun e28=>?_)|refine kD (fun e28=>?_) (fun e28=>?_)|refine kE (fun e28=>?_) (fun e28=>?_)|refine kF (fun e28=>?_) (fun e28=>?_))
   ·have kd:nd.kind=28:=by simpa using e28
    have hA:exprA nd=(wordB nd.name&&bareB nd nd.name 0 0 0,0):=by unfold exprA;rw[if_neg k25,if_neg k26,if_neg k27,if_pos kd]
    simp(disch:=(try simp only[hN]);omega)only[go_sem,simprocAttr,e28,H0,H1]
    refine fword_spec HG hnm fun h1 f1=>⟨fun hb=>?_,fun hb=>?_⟩
    ·have hn1:=f1.n;try simp only[hN] at hn1
     simp(disch:=(try simp only[hN]);omega)only[go_sem,simprocAttr,f1.all,Hn,H0,H1,H2,kd]
     exact ⟨nd.name,0,0,0,2,(hfr _ f1).updNew (by omega) _ _,by omega,rfl,by rw[hA,hb,Bool.true_and],rfl⟩
    ·simp(disch:=(try simp only[hN]);omega)only[go_sem,simprocAttr,formStop]
     exact bad f1 (by rw[hA,hb,Bool.false_and])
   have k28:nd.kind≠28:=by simpa using e28
   simp(disch:=(try simp only[hN]);omega)only[go_sem,simprocAttr,e28]
   (first|refine kA (fun e29=>?_) (fun e29=>?_)|refine kB (fun e29=>?_) (fun e29=>?_)|refine kC (fun e29=>?_) (fun e29=>?_)|refine kD (fun e29=>?_) (fun e29=>?_)|refine kE (fun e29=>?_) (fun e29=>?_)|refine kF (fun e29=>?_) (fun e29=>?_))
   ·have kd:nd.kind=29:=by simpa using e29
    have hA:exprA nd=(wordB nd.name&&bareB nd nd.name 0 0 0,1):=by unfold exprA;rw[if_neg k25,if_neg k26,if_neg k27,if_neg k28,if_pos kd]
    simp(disch:=(try simp only[hN]);omega)only[go_sem,simprocAttr,e29,H0,H1]
    refine fword_spec HG hnm fun h1 f1=>⟨fun hb=>?_,fun hb=>?_⟩
    ·have hn1:=f1.n;try simp only[hN] at hn1
     simp(disch:=(try simp only[hN]);omega)only[go_sem,simprocAttr,f1.all,Hn,H0,H1,H2,kd]
     exact ⟨nd.name,0,0,1,2,(hfr _ f1).updNew (by omega) _ _,by omega,rfl,by rw[hA,hb,Bool.true_and],rfl⟩
    ·simp(disch:=(try simp only[hN]);omega)only[go_sem,simprocAttr,formStop]
     exact bad f1 (by rw[hA,hb,Bool.false_and])
   have k29:nd.kind≠29:=by simpa using e29
   simp(disch:=(try simp only[hN]);omega)only[go_sem,simprocAttr,e29]
   (first|refine kA (fun e30=>?_) (fun e30=>?_)|refine kB (fun e30=>?_) (fun e30=>?_)|refine kC (fun e30=>?_) (fun e30=>?_)|refine kD (fun e30=>?_) (fun e30=>?_)|refine kE (fun e30=>?_) (fun e30=>?_)|refine kF (fun e30=>?_) (fun e30=>?_))
   ·have kd:nd.kind=30:=by simpa using e30
    have hA:exprA nd=(opB nd.name&&bareB nd nd.name 0 0 0,1):=by unfold exprA;rw[if_neg k25,if_neg k26,if_neg k27,if_neg k28,if_neg k29,if_pos kd]
    simp(disch:=(try simp only[hN]);omega)only[go_sem,simprocAttr,H0,H1]
    (first|refine kA (fun g1=>?_) (fun g1=>?_)|refine kB (fun g1=>?_) (fun g1=>?_)|refine kC (fun g1=>?_) (fun g1=>?_)|refine kD (fun g1=>?_) (fun g1=>?_)|refine kE (fun g1=>?_) (fun g1=>?_)|refine kF (fun g1=>?_) (fun g1=>?_))<;>simp(disch:=(try simp only[hN]);omega)only[go_sem,simprocAttr,g1,H1]
    ·(first|refine kA (fun g2=>?_) (fun g2=>?_)|refine kB (fun g2=>?_) (fun g2=>?_)|refine kC (fun g2=>?_) (fun g2=>?_)|refine kD (fun g2=>?_) (fun g2=>?_)|refine kE (fun g2=>?_) (fun g2=>?_)|refine kF (fun g2=>?_) (fun g2=>?_))<;>simp(disch:=(try simp only[hN]);omega)only[go_sem,simprocAttr,g2,H1]
     ·(first|refine kA (fun g3=>?_) (fun g3=>?_)|refine kB (fun g3=>?_) (fun g3=>?_)|refine kC (fun g3=>?_) (fun g3=>?_)|refine kD (fun g3=>?_) (fun g3=>?_)|refine kE (fun g3=>?_) (fun g3=>?_)|refine kF (fun g3=>?_) (fun g3=>?_))<;>simp(disch:=(try simp only[hN]);omega)only[go_sem,simprocAttr,g3,H1]
      ·refine need_spec fun h1 f1=>⟨fun hb=>?_,fun hb=>?_⟩
       ·have hn1:=f1.n;try simp only[hN] at hn1
        simp(disch:=(try simp only[hN]);omega)only[go_sem,simprocAttr,f1.all,Hn,H0,H1,H2]
        exact ⟨nd.name,0,0,1,2,(hfr _ f1).updNew (by omega) _ _,by omega,rfl,by rw[hA,opB,hb,Bool.or_true,Bool.true_and],rfl⟩
       ·simp(disch:=(try simp only[hN]);omega)only[go_sem,simprocAttr,formStop]
        exact bad f1 (by rw[hA,opB,g1,g2,g3,hb];rfl)
      ·refine need_spec fun h1 f1=>⟨fun _=>?_,fun hb=>(by cases hb)⟩
       have hn1:=f1.n;try simp only[hN] at hn1
       simp(disch:=(try simp only[hN]);omega)only[go_sem,simprocAttr,f1.all,Hn,H0,H1,H2]
       exact ⟨nd.name,0,0,1,2,(hfr _ f1).updNew (by omega) _ _,by omega,rfl,by rw[hA,opB,g3,Bool.or_true,Bool.true_or,Bool.true_and],rfl⟩
     ·refine need_spec fun h1 f1=>⟨fun _=>?_,fun hb=>(by cases hb)⟩
      have hn1:=f1.n;try simp only[hN] at hn1
      simp(disch:=(try simp only[hN]);omega)only[go_sem,simprocAttr,f1.all,Hn,H0,H1,H2]
      exact ⟨nd.name,0,0,1,2,(hfr _ f1).updNew (by omega) _ _,by omega,rfl,by rw[hA,opB,g2,Bool.or_true,Bool.true_or,Bool.true_or,Bool.true_and],rfl⟩
    ·refine need_spec fun h1 f1=>⟨fun _=>?_,fun hb=>(by cases hb)⟩
     have hn1:=f1.n;try simp only[hN] at hn1
     simp(disch:=(try simp only[hN]);omega)only[go_sem,simprocAttr,f1.all,Hn,H0,H1,H2]
     exact ⟨nd.name,0,0,1,2,(hfr _ f1).updNew (by omega) _ _,by omega,rfl,by rw[hA,opB,g1,Bool.true_or,Bool.true_or,Bool.true_or,Bool.true_and],rfl⟩
   have k30:nd.kind≠30:=by simpa using e30
   simp(disch:=(try simp only[hN]);omega)only[go_sem,simprocAttr]
   (first|refine kA (fun e31=>?_) (fun e31=>?_)|refine kB (fun e31=>?_) (fun e31=>?_)|refine kC (fun e31=>?_) (fun e31=>?_)|refine kD (fun e31=>?_) (fun e31=>?_)|refine kE (fun e31=>?_) (fun e31=>?_)|refine kF (fun e31=>?_) (fun e31=>?_))
   ·have kd:nd.kind=31:=by simpa using e31
    have hA:exprA nd=(decide (0<rankN nd.name)&&bareB nd nd.name 0 0 0,2):=by unfold exprA;rw[if_neg k25,if_neg k26,if_neg k27,if_neg k28,if_neg k29,if_neg k30,if_pos kd]
    simp(disch:=(try simp only[hN]);omega)only[go_sem,simprocAttr,H0,H1]
    refine rank_spec fun h1 f1=>?_
    have hn1:=f1.n;try simp only[hN] at hn1
    simp(disch:=(try simp only[hN]);omega)only[go_sem,simprocAttr,f1.all,Hn,H0,H1,H2]
    refine need_spec fun h2 f2=>⟨fun hb=>?_,fun hb=>?_⟩
    ·have hn2:=f2.n;try simp only[hN] at hn2
     have f12:Fr H.n H h2:=f1.trans ⟨f2.n,fun b hb _=>f2.all (by omega)⟩
     have hb':decide (0<rankN nd.name)=true:=decide_eq_true (by have:=of_decide_eq_true hb;omega)
     simp(disch:=(try simp only[hN]);omega)only[go_sem,simprocAttr,f12.all,Hn,H0,H1,H2]
     exact ⟨nd.name,0,0,2,2,(hfr _ f12).updNew (by omega) _ _,by omega,rfl,by rw[hA,hb',Bool.true_and],rfl⟩
    ·have f12:Fr H.n H h2:=f1.trans ⟨f2.n,fun b hb _=>f2.all (by omega)⟩
     simp(disch:=(try simp only[hN]);omega)only[go_sem,simprocAttr,formStop]
     have hb':decide (0<rankN nd.name)=false:=decide_eq_false (by have:=of_decide_eq_false hb;omega)
     exact bad f12 (by rw[hA,hb',Bool.false_and])
   have k31:nd.kind≠31:=by simpa using e31
   have hA:exprA nd=(false,0):=by unfold exprA;rw[if_neg k25,if_neg k26,if_neg k27,if_neg k28,if_neg k29,if_neg k30,if_neg k31]
   simp(disch:=(try simp only[hN]);omega)only[go_sem,simprocAttr,H0]
   refine need_spec fun h1 f1=>⟨fun hb=>(by cases hb),fun hb=>?_⟩
   simp(disch:=(try simp only[hN]);omega)only[go_sem,simprocAttr,formStop]
   exact bad f1 hA
  ·rintro ⟨t,df⟩ h1 ⟨nm,k,bits,m,v5,f1,hn1,q0,q1,q2,hA,k2,k3,k4,k5,kdf⟩
   simp only at k2 k3 k4 k5 kdf
   subst kdf
   rw[hA] at hQ
   simp(disch:=(try simp only[hN]);omega)only[go_sem,simprocAttr,k2,k3,k5,q0,q1,q2,hkf.1,hkf.2]
   refine bare_spec (n:=nd) (kv:=kv) (nm:=nm) (t:=0) (k:=k) (bits:=bits) hkf.1 hkf.2 fun h2 f2=>⟨fun hb=>?_,fun hb=>?_⟩
   ·have hn2:=f2.n;try simp only[hN] at hn2
    have f12:Fr h.n h h2:=f1.trans ⟨f2.n,fun b hb _=>f2.all (by omega)⟩
    have p0:h2.get h.n=some ⟨0,.cells .own 0 []⟩:=by rw[f2.all (by omega)];exact q0
    have p1:h2.get (h.n+1)=some ⟨0,.cells .own 0 (ndC nd kv)⟩:=by rw[f2.all (by omega)];exact q1
    rw[hb] at hQ
    simp only[Bool.true_and] at hQ
    simp(disch:=(try simp only[hN]);omega)only[go_sem,simprocAttr,k2,k3,k4,p0,p1,hkf.1,hkf.2,hk.len]
    refine need_spec fun h3 f3=>⟨fun hb2=>?_,fun hb2=>?_⟩
    ·have hn3:=f3.n;try simp only[hN] at hn3
     have hm:ks.length=m:=by
       have:(ks.length:Int)=(m:Int):=by simpa using hb2
       omega
     rw[decide_eq_true hm,Bool.true_and] at hQ
     have f13:Fr h.n h h3:=f12.trans ⟨f3.n,fun b hb _=>f3.all (by omega)⟩
     have r0:h3.get h.n=some ⟨0,.cells .own 0 []⟩:=by rw[f3.all (by omega)];exact p0
     have r1:h3.get (h.n+1)=some ⟨0,.cells .own 0 (ndC nd kv)⟩:=by rw[f3.all (by omega)];exact p1
     simp(disch:=(try simp only[hN]);omega)only[go_sem,simprocAttr,k2,k3,r0,r1,hkf.1,hkf.2,hk.len]
     clear hA hb hb2 p0 p1 q0 q1 q2 k4 k5
     refine wp_loop (fun n a h'=>∃i:Nat,n=ks.length-i∧i≤ks.length∧Fr h3.n h3 h'∧exprsF (ks.take i)=true∧a.tm.get 2=some (.ptr h.n 0)∧a.tm.get 104=some kv∧a.tm.get 105=some (.int .i64 (ks.length:Int))∧a.tm.get 106=some (.int .i64 (i:Int))∧a.df=[]) ?_ ks.length ?_
     ·rintro n ⟨t4,df4⟩ h4 ⟨i,hn,hi,f4,hx,w2,w104,w105,w106,wdf⟩
      simp only at w2 w104 w105 w106 wdf
      subst wdf
      have hn4:=f4.n;try simp only[hN] at hn4
      simp(disch:=(try simp only[hN]);omega)only[go_sem,simprocAttr,w105,w106]
      (first|refine kA (fun hlt=>?_) (fun hlt=>?_)|refine kB (fun hlt=>?_) (fun hlt=>?_)|refine kC (fun hlt=>?_) (fun hlt=>?_)|refine kD (fun hlt=>?_) (fun hlt=>?_)|refine kE (fun hlt=>?_) (fun hlt=>?_)|refine kF (fun hlt=>?_) (fun hlt=>?_))
      ·have hil:i<ks.length:=(by have:=of_decide_eq_true hlt;omega)
       have hstep:=cntL_take hil
       have hle:=cntL_le (ns:=ks) (i+1)
       have hxt:=exprsF_take hil
       have hxg:=exprsF_get hil
       have hlk:=longsB_get hil hlks
       cases hk with
       | nil=>simp at hil
       | emp=>simp at hil
       | row g1 g0 g2 g3 g4 gr g5=>
        rename_i b ver o c md ex bs css
        obtain ⟨kv',hr,hk'⟩:=g5.get hil
        rw[←row_sub (o:=o) gr (by omega)] at hr
        have f14:Fr h.n h h4:=f13.trans ⟨f4.n,fun b hb _=>f4.all (by omega)⟩
        have g4':h4.get b=some ⟨ver,.cells md 9 bs⟩:=by rw[f14.all g3];exact g4
        have s0:h4.get h.n=some ⟨0,.cells .own 0 []⟩:=by rw[f4.all (by omega)];exact r0
        have HG4:GH h4:=f14.gh hG.n hG
        generalize ks[i]=nd1 at hr hk' hstep hxt hxg hlk
        simp(disch:=(try simp only[hN]);omega)only[go_sem,simprocAttr,w2,w104,w105,w106,Int.toNat_natCast,g4',s0,hr,hk'.flat.1,hk'.flat.2]
        refine ih (by omega) ((HG4.alloc _).upd (by have:=HG4.n;omega) _ _) (hk'.keep (Nat.le_refl _) (by simp only[hN];omega) fun b' hb1 hb2=>?_) hlk ?_
        ·simp(disch:=(try simp only[hN]);omega)only[go_sem,simprocAttr,f14.all]
        ·intro h5 f5
         have hn5:=f5.n;try simp only[hN] at hn5
         constructor
         ·intro e
          simp(disch:=(try simp only[hN]);omega)only[go_sem,simprocAttr,w2,w104,w105,w106]
          exact ⟨_,hn ▸ Nat.sub_lt_sub_left hil (Nat.lt_succ_self i),i+1,rfl,hil,⟨by (try simp only[hN]);omega,fun b hb hne=>by (try simp only[hN] at hb hne);simp(disch:=(try simp only[hN]);omega)only[go_sem,simprocAttr,f5.old,f4.old]⟩,by rw[hxt,hx,e];rfl,rfl⟩
         ·intro e
          simp(disch:=(try simp only[hN]);omega)only[go_sem,simprocAttr,formStop]
          refine (hQ _ ?_).2 (hxg e)
          exact f14.trans ⟨by (try simp only[hN]);omega,fun b hb hne=>by (try simp only[hN] at hb hne);simp(disch:=(try simp only[hN]);omega)only[go_sem,simprocAttr,f5.old]⟩
      ·have hil:i=ks.length:=by have:=of_decide_eq_false hlt;omega
       subst hil
       rw[List.take_length] at hx
       simp(disch:=(try simp only[hN]);omega)only[go_sem,simprocAttr]
       exact (hQ _ (f13.trans ⟨f4.n,fun b hb _=>f4.all (by omega)⟩)).1 hx
     ·exact ⟨0,rfl,Nat.zero_le _,Fr.refl _ _,rfl,by simp(disch:=(try simp only[hN]);omega)only[go_sem,simprocAttr,k2],by simp(disch:=(try simp only[hN]);omega)only[go_sem,simprocAttr],by simp(disch:=(try simp only[hN]);omega)only[go_sem,simprocAttr],by simp(disch:=(try simp only[hN]);omega)only[go_sem,simprocAttr],rfl⟩
    ·simp(disch:=(try simp only[hN]);omega)only[go_sem,simprocAttr,formStop]
     have hm:¬ks.length=m:=fun e=>by rw[e] at hb2;simp at hb2
     rw[decide_eq_false hm] at hQ
     exact (hQ _ (f12.trans ⟨f3.n,fun b hb _=>f3.all (by omega)⟩)).2 rfl
   ·simp(disch:=(try simp only[hN]);omega)only[go_sem,simprocAttr,formStop]
    exact (hQ _ (f1.trans ⟨f2.n,fun b hb _=>f2.all (by omega)⟩)).2 (by rw[hb];rfl)
theorem rkey_spec {w:Bs} {h:AHeap} {Q:QR} (hQ:Q (.ret (.bool (keys.contains w))) h):WF F 54 [.str w] h Q:=by
 refine WF.code F54 rfl ?_
 simp(disch:=(try simp only[hN]);omega)only[go_sem,simprocAttr]
 (first|refine kA (fun k0=>?_) (fun k0=>?_)|refine kB (fun k0=>?_) (fun k0=>?_)|refine kC (fun k0=>?_) (fun k0=>?_)|refine kD (fun k0=>?_) (fun k0=>?_)|refine kE (fun k0=>?_) (fun k0=>?_)|refine kF (fun k0=>?_) (fun k0=>?_))
 ·have:w=[97,100,100]:=by simpa using k0
  subst this
  simp(disch:=(try simp only[hN]);omega)only[go_sem,simprocAttr]
  exact hQ
 simp(disch:=(try simp only[hN]);omega)only[go_sem,simprocAttr]
 (first|refine kA (fun k1=>?_) (fun k1=>?_)|refine kB (fun k1=>?_) (fun k1=>?_)|refine kC (fun k1=>?_) (fun k1=>?_)|refine kD (fun k1=>?_) (fun k1=>?_)|refine kE (fun k1=>?_) (fun k1=>?_)|refine kF (fun k1=>?_) (fun k1=>?_))
 ·have:w=[97,116,111,109,105,99]:=by simpa using k1
  subst this
  simp(disch:=(try simp only[hN]);omega)only[go_sem,simprocAttr]
  exact hQ
 simp(disch:=(try simp only[hN]);omega)only[go_sem,simprocAttr]
 (first|refine kA (fun k2=>?_) (fun k2=>?_)|refine kB (fun k2=>?_) (fun k2=>?_)|refine kC (fun k2=>?_) (fun k2=>?_)|refine kD (fun k2=>?_) (fun k2=>?_)|refine kE (fun k2=>?_) (fun k2=>?_)|refine kF (fun k2=>?_) (fun k2=>?_))
 ·have:w=[98,111,111,108]:=by simpa using k2
  subst this
  simp(disch:=(try simp only[hN]);omega)only[go_sem,simprocAttr]
  exact hQ
 simp(disch:=(try simp only[hN]);omega)only[go_sem,simprocAttr]
 (first|refine kA (fun k3=>?_) (fun k3=>?_)|refine kB (fun k3=>?_) (fun k3=>?_)|refine kC (fun k3=>?_) (fun k3=>?_)|refine kD (fun k3=>?_) (fun k3=>?_)|refine kE (fun k3=>?_) (fun k3=>?_)|refine kF (fun k3=>?_) (fun k3=>?_))
 ·have:w=[99,104,97,110]:=by simpa using k3
  subst this
  simp(disch:=(try simp only[hN]);omega)only[go_sem,simprocAttr]
  exact hQ
 simp(disch:=(try simp only[hN]);omega)only[go_sem,simprocAttr]
 (first|refine kA (fun k4=>?_) (fun k4=>?_)|refine kB (fun k4=>?_) (fun k4=>?_)|refine kC (fun k4=>?_) (fun k4=>?_)|refine kD (fun k4=>?_) (fun k4=>?_)|refine kE (fun k4=>?_) (fun k4=>?_)|refine kF (fun k4=>?_) (fun k4=>?_))
 ·have:w=[101,108,115,101]:=by simpa using k4
  subst this
  simp(disch:=(try simp only[hN]);omega)only[go_sem,simprocAttr]
  exact hQ
 simp(disch:=(try simp only[hN]);omega)only[go_sem,simprocAttr]
 (first|refine kA (fun k5=>?_) (fun k5=>?_)|refine kB (fun k5=>?_) (fun k5=>?_)|refine kC (fun k5=>?_) (fun k5=>?_)|refine kD (fun k5=>?_) (fun k5=>?_)|refine kE (fun k5=>?_) (fun k5=>?_)|refine kF (fun k5=>?_) (fun k5=>?_))
 ·have:w=[102,97,105,108]:=by simpa using k5
  subst this
  simp(disch:=(try simp only[hN]);omega)only[go_sem,simprocAttr]
  exact hQ
 simp(disch:=(try simp only[hN]);omega)only[go_sem,simprocAttr]
 (first|refine kA (fun k6=>?_) (fun k6=>?_)|refine kB (fun k6=>?_) (fun k6=>?_)|refine kC (fun k6=>?_) (fun k6=>?_)|refine kD (fun k6=>?_) (fun k6=>?_)|refine kE (fun k6=>?_) (fun k6=>?_)|refine kF (fun k6=>?_) (fun k6=>?_))
 ·have:w=[102,97,108,115,101]:=by simpa using k6
  subst this
  simp(disch:=(try simp only[hN]);omega)only[go_sem,simprocAttr]
  exact hQ
 simp(disch:=(try simp only[hN]);omega)only[go_sem,simprocAttr]
 (first|refine kA (fun k7=>?_) (fun k7=>?_)|refine kB (fun k7=>?_) (fun k7=>?_)|refine kC (fun k7=>?_) (fun k7=>?_)|refine kD (fun k7=>?_) (fun k7=>?_)|refine kE (fun k7=>?_) (fun k7=>?_)|refine kF (fun k7=>?_) (fun k7=>?_))
 ·have:w=[102,108,111,97,116]:=by simpa using k7
  subst this
  simp(disch:=(try simp only[hN]);omega)only[go_sem,simprocAttr]
  exact hQ
 simp(disch:=(try simp only[hN]);omega)only[go_sem,simprocAttr]
 (first|refine kA (fun k8=>?_) (fun k8=>?_)|refine kB (fun k8=>?_) (fun k8=>?_)|refine kC (fun k8=>?_) (fun k8=>?_)|refine kD (fun k8=>?_) (fun k8=>?_)|refine kE (fun k8=>?_) (fun k8=>?_)|refine kF (fun k8=>?_) (fun k8=>?_))
 ·have:w=[102,117,110,99]:=by simpa using k8
  subst this
  simp(disch:=(try simp only[hN]);omega)only[go_sem,simprocAttr]
  exact hQ
 simp(disch:=(try simp only[hN]);omega)only[go_sem,simprocAttr]
 (first|refine kA (fun k9=>?_) (fun k9=>?_)|refine kB (fun k9=>?_) (fun k9=>?_)|refine kC (fun k9=>?_) (fun k9=>?_)|refine kD (fun k9=>?_) (fun k9=>?_)|refine kE (fun k9=>?_) (fun k9=>?_)|refine kF (fun k9=>?_) (fun k9=>?_))
 ·have:w=[103,101,116]:=by simpa using k9
  subst this
  simp(disch:=(try simp only[hN]);omega)only[go_sem,simprocAttr]
  exact hQ
 simp(disch:=(try simp only[hN]);omega)only[go_sem,simprocAttr]
 (first|refine kA (fun k10=>?_) (fun k10=>?_)|refine kB (fun k10=>?_) (fun k10=>?_)|refine kC (fun k10=>?_) (fun k10=>?_)|refine kD (fun k10=>?_) (fun k10=>?_)|refine kE (fun k10=>?_) (fun k10=>?_)|refine kF (fun k10=>?_) (fun k10=>?_))
 ·have:w=[103,111]:=by simpa using k10
  subst this
  simp(disch:=(try simp only[hN]);omega)only[go_sem,simprocAttr]
  exact hQ
 simp(disch:=(try simp only[hN]);omega)only[go_sem,simprocAttr]
 (first|refine kA (fun k11=>?_) (fun k11=>?_)|refine kB (fun k11=>?_) (fun k11=>?_)|refine kC (fun k11=>?_) (fun k11=>?_)|refine kD (fun k11=>?_) (fun k11=>?_)|refine kE (fun k11=>?_) (fun k11=>?_)|refine kF (fun k11=>?_) (fun k11=>?_))
 ·have:w=[105,102]:=by simpa using k11
  subst this
  simp(disch:=(try simp only[hN]);omega)only[go_sem,simprocAttr]
  exact hQ
 simp(disch:=(try simp only[hN]);omega)only[go_sem,simprocAttr]
 (first|refine kA (fun k12=>?_) (fun k12=>?_)|refine kB (fun k12=>?_) (fun k12=>?_)|refine kC (fun k12=>?_) (fun k12=>?_)|refine kD (fun k12=>?_) (fun k12=>?_)|refine kE (fun k12=>?_) (fun k12=>?_)|refine kF (fun k12=>?_) (fun k12=>?_))
 ·have:w=[105,110,116]:=by simpa using k12
  subst this
  simp(disch:=(try simp only[hN]);omega)only[go_sem,simprocAttr]
  exact hQ
 simp(disch:=(try simp only[hN]);omega)only[go_sem,simprocAttr]
 (first|refine kA (fun k13=>?_) (fun k13=>?_)|refine kB (fun k13=>?_) (fun k13=>?_)|refine kC (fun k13=>?_) (fun k13=>?_)|refine kD (fun k13=>?_) (fun k13=>?_)|refine kE (fun k13=>?_) (fun k13=>?_)|refine kF (fun k13=>?_) (fun k13=>?_))
 ·have:w=[108,111,99,107]:=by simpa using k13
  subst this
  simp(disch:=(try simp only[hN]);omega)only[go_sem,simprocAttr]
  exact hQ
 simp(disch:=(try simp only[hN]);omega)only[go_sem,simprocAttr]
 (first|refine kA (fun k14=>?_) (fun k14=>?_)|refine kB (fun k14=>?_) (fun k14=>?_)|refine kC (fun k14=>?_) (fun k14=>?_)|refine kD (fun k14=>?_) (fun k14=>?_)|refine kE (fun k14=>?_) (fun k14=>?_)|refine kF (fun k14=>?_) (fun k14=>?_))
 ·have:w=[109,117,116,101,120]:=by simpa using k14
  subst this
  simp(disch:=(try simp only[hN]);omega)only[go_sem,simprocAttr]
  exact hQ
 simp(disch:=(try simp only[hN]);omega)only[go_sem,simprocAttr]
 (first|refine kA (fun k15=>?_) (fun k15=>?_)|refine kB (fun k15=>?_) (fun k15=>?_)|refine kC (fun k15=>?_) (fun k15=>?_)|refine kD (fun k15=>?_) (fun k15=>?_)|refine kE (fun k15=>?_) (fun k15=>?_)|refine kF (fun k15=>?_) (fun k15=>?_))
 ·have:w=[112,117,116]:=by simpa using k15
  subst this
  simp(disch:=(try simp only[hN]);omega)only[go_sem,simprocAttr]
  exact hQ
 simp(disch:=(try simp only[hN]);omega)only[go_sem,simprocAttr]
 (first|refine kA (fun k16=>?_) (fun k16=>?_)|refine kB (fun k16=>?_) (fun k16=>?_)|refine kC (fun k16=>?_) (fun k16=>?_)|refine kD (fun k16=>?_) (fun k16=>?_)|refine kE (fun k16=>?_) (fun k16=>?_)|refine kF (fun k16=>?_) (fun k16=>?_))
 ·have:w=[114,101,99,118]:=by simpa using k16
  subst this
  simp(disch:=(try simp only[hN]);omega)only[go_sem,simprocAttr]
  exact hQ
 simp(disch:=(try simp only[hN]);omega)only[go_sem,simprocAttr]
 (first|refine kA (fun k17=>?_) (fun k17=>?_)|refine kB (fun k17=>?_) (fun k17=>?_)|refine kC (fun k17=>?_) (fun k17=>?_)|refine kD (fun k17=>?_) (fun k17=>?_)|refine kE (fun k17=>?_) (fun k17=>?_)|refine kF (fun k17=>?_) (fun k17=>?_))
 ·have:w=[114,101,116,117,114,110]:=by simpa using k17
  subst this
  simp(disch:=(try simp only[hN]);omega)only[go_sem,simprocAttr]
  exact hQ
 simp(disch:=(try simp only[hN]);omega)only[go_sem,simprocAttr]
 (first|refine kA (fun k18=>?_) (fun k18=>?_)|refine kB (fun k18=>?_) (fun k18=>?_)|refine kC (fun k18=>?_) (fun k18=>?_)|refine kD (fun k18=>?_) (fun k18=>?_)|refine kE (fun k18=>?_) (fun k18=>?_)|refine kF (fun k18=>?_) (fun k18=>?_))
 ·have:w=[115,101,110,100]:=by simpa using k18
  subst this
  simp(disch:=(try simp only[hN]);omega)only[go_sem,simprocAttr]
  exact hQ
 simp(disch:=(try simp only[hN]);omega)only[go_sem,simprocAttr]
 (first|refine kA (fun k19=>?_) (fun k19=>?_)|refine kB (fun k19=>?_) (fun k19=>?_)|refine kC (fun k19=>?_) (fun k19=>?_)|refine kD (fun k19=>?_) (fun k19=>?_)|refine kE (fun k19=>?_) (fun k19=>?_)|refine kF (fun k19=>?_) (fun k19=>?_))
 ·have:w=[116,114,117,101]:=by simpa using k19
  subst this
  simp(disch:=(try simp only[hN]);omega)only[go_sem,simprocAttr]
  exact hQ
 simp(disch:=(try simp only[hN]);omega)only[go_sem,simprocAttr]
 (first|refine kA (fun k20=>?_) (fun k20=>?_)|refine kB (fun k20=>?_) (fun k20=>?_)|refine kC (fun k20=>?_) (fun k20=>?_)|refine kD (fun k20=>?_) (fun k20=>?_)|refine kE (fun k20=>?_) (fun k20=>?_)|refine kF (fun k20=>?_) (fun k20=>?_))
 ·have:w=[117,110,108,111,99,107]:=by simpa using k20
  subst this
  simp(disch:=(try simp only[hN]);omega)only[go_sem,simprocAttr]
  exact hQ
 simp(disch:=(try simp only[hN]);omega)only[go_sem,simprocAttr]
 (first|refine kA (fun k21=>?_) (fun k21=>?_)|refine kB (fun k21=>?_) (fun k21=>?_)|refine kC (fun k21=>?_) (fun k21=>?_)|refine kD (fun k21=>?_) (fun k21=>?_)|refine kE (fun k21=>?_) (fun k21=>?_)|refine kF (fun k21=>?_) (fun k21=>?_))
 ·have:w=[118,97,114]:=by simpa using k21
  subst this
  simp(disch:=(try simp only[hN]);omega)only[go_sem,simprocAttr]
  exact hQ
 simp(disch:=(try simp only[hN]);omega)only[go_sem,simprocAttr]
 (first|refine kA (fun k22=>?_) (fun k22=>?_)|refine kB (fun k22=>?_) (fun k22=>?_)|refine kC (fun k22=>?_) (fun k22=>?_)|refine kD (fun k22=>?_) (fun k22=>?_)|refine kE (fun k22=>?_) (fun k22=>?_)|refine kF (fun k22=>?_) (fun k22=>?_))
 ·have:w=[119,104,105,108,101]:=by simpa using k22
  subst this
  simp(disch:=(try simp only[hN]);omega)only[go_sem,simprocAttr]
  exact hQ
 simp(disch:=(try simp only[hN]);omega)only[go_sem,simprocAttr]
 have:keys.contains w=false:=by
  simp only[keys,List.contains_cons,k0,k1,k2,k3,k4,k5,k6,k7,k8,k9,k10,k11,k12,k13,k14,k15,k16,k17,k18,k19,k20,k21,k22]
  rfl
 rw[this] at hQ
 exact hQ
theorem wchars_get:∀{s:Bs} {i j:Nat} (h:j<s.length),wchars i s=true→(isLetter s[j]||(decide (0<i+j)&&isDigit s[j]))=true
 | c::r,i,0,_,h=>by simp only[wchars,Bool.and_eq_true] at h;simpa using h.1
 | c::r,i,j+1,hj,h=>by
  simp only[wchars,Bool.and_eq_true] at h
  have:=wchars_get (i:=i+1) (j:=j) (by simpa using hj) h.2
  rw[show i+(j+1)=i+1+j by omega]
  simpa using this
theorem wchars_of:∀{s:Bs} {i:Nat},(∀j (h:j<s.length),(isLetter s[j]||(decide (0<i+j)&&isDigit s[j]))=true)→wchars i s=true
 | [],_,_=>rfl
 | c::r,i,h=>by
  simp only[wchars,Bool.and_eq_true]
  have h0:=h 0 (by simp)
  simp only[List.getElem_cons_zero,Nat.add_zero] at h0
  refine ⟨h0,wchars_of fun j hj=>?_⟩
  have:=h (j+1) (by simpa using hj)
  rw[show i+(j+1)=i+1+j by omega] at this
  simpa using this
theorem rword_spec {s:Bs} {h:AHeap} {Q:QR} (hlen:s.length<2^62) (hQ:∀h',Fr h.n h h'→Q (.ret (.bool (rwordB s))) h'):WF F 22 [.str s] h Q:=by
 refine WF.code F22 rfl ?_
 simp(disch:=(try simp only[hN]);omega)only[go_sem,simprocAttr]
 refine wp_loop (fun n a h'=>∃i:Nat,n=s.length-i∧i≤s.length∧h'=h∧(∀j (hj:j<s.length),j<i→(isLetter s[j]||(decide (0<j)&&isDigit s[j]))=true)∧a.tm.get 0=some (.str s)∧a.tm.get 3=some (.int .i64 (i:Int))∧a.df=[]) ?_ s.length ?_
 ·rintro n ⟨t,df⟩ h2 ⟨i,hn,hi,rfl,hall,k0,k3,hdf⟩
  simp only at k0 k3 hdf
  subst hdf
  simp(disch:=(try simp only[hN]);omega)only[go_sem,simprocAttr,k0,k3]
  (first|refine kA (fun hlt=>?_) (fun hlt=>?_)|refine kB (fun hlt=>?_) (fun hlt=>?_)|refine kC (fun hlt=>?_) (fun hlt=>?_)|refine kD (fun hlt=>?_) (fun hlt=>?_)|refine kE (fun hlt=>?_) (fun hlt=>?_)|refine kF (fun hlt=>?_) (fun hlt=>?_))
  ·have hil:i<s.length:=(by have:=of_decide_eq_true hlt;omega)
   have hget:s[i]?=some s[i]:=List.getElem?_eq_getElem hil
   have hstep:∀b,b=(isLetter s[i]||(decide (0<i)&&isDigit s[i]))→b=true→∀j (hj:j<s.length),j<i+1→(isLetter s[j]||(decide (0<j)&&isDigit s[j]))=true:=by
    intro b e1 e2 j hj hji
    by_cases e:j=i
    ·subst e;rw[←e1];exact e2
    ·exact hall j hj (by omega)
   have hbad:(isLetter s[i]||(decide (0<i)&&isDigit s[i]))=false→rwordB s=false:=by
    intro e
    unfold rwordB
    cases q:wchars 0 s with
    | false=>simp
    | true=>have q2:=wchars_get hil q;rw[Nat.zero_add,e] at q2;cases q2
   generalize s[i]=c at hget hstep hbad
   simp(disch:=(try simp only[hN]);omega)only[go_sem,simprocAttr,k0,k3,hget,Int.toNat_natCast]
   have wu:wantB (some undefA) true=false:=rfl
   repeat' ((first|refine kA (fun hb=>?_) (fun hb=>?_)|refine kB (fun hb=>?_) (fun hb=>?_)|refine kC (fun hb=>?_) (fun hb=>?_)|refine kD (fun hb=>?_) (fun hb=>?_)|refine kE (fun hb=>?_) (fun hb=>?_)|refine kF (fun hb=>?_) (fun hb=>?_))<;>simp(disch:=(try simp only[hN]);omega)only[go_sem,simprocAttr,hb,k0,k3,wu])
   all_goals first
    | (refine ⟨_,hn ▸ Nat.sub_lt_sub_left hil (Nat.lt_succ_self i),i+1,rfl,hil,hstep true (Eq.symm ?_) rfl,rfl⟩;clear hall hbad hstep hQ;simp [isLetter,isDigit] at *;omega)
    | (rw[hbad (by clear hall hstep hbad hQ;simp [isLetter,isDigit] at *;omega)] at hQ;exact hQ _ (Fr.refl _ _))
    | trace_state
  ·have hil:i=s.length:=by have:=of_decide_eq_false hlt;omega
   subst hil
   have hw:wchars 0 s=true:=wchars_of fun j hj=>by rw[Nat.zero_add];exact hall j hj hj
   simp(disch:=(try simp only[hN]);omega)only[go_sem,simprocAttr,k0]
   (first|refine kA (fun e1=>?_) (fun e1=>?_)|refine kB (fun e1=>?_) (fun e1=>?_)|refine kC (fun e1=>?_) (fun e1=>?_)|refine kD (fun e1=>?_) (fun e1=>?_)|refine kE (fun e1=>?_) (fun e1=>?_)|refine kF (fun e1=>?_) (fun e1=>?_))<;>simp(disch:=(try simp only[hN]);omega)only[go_sem,simprocAttr,e1,k0]
   ·have l1:1≤s.length:=by have:=of_decide_eq_true e1;omega
    (first|refine kA (fun e2=>?_) (fun e2=>?_)|refine kB (fun e2=>?_) (fun e2=>?_)|refine kC (fun e2=>?_) (fun e2=>?_)|refine kD (fun e2=>?_) (fun e2=>?_)|refine kE (fun e2=>?_) (fun e2=>?_)|refine kF (fun e2=>?_) (fun e2=>?_))<;>simp(disch:=(try simp only[hN]);omega)only[go_sem,simprocAttr,e2,k0]
    ·have l2:s.length≤24:=by have:=of_decide_eq_true e2;omega
     refine rkey_spec ?_
     simp(disch:=(try simp only[hN]);omega)only[go_sem,simprocAttr,k0]
     refine useB (hQ _ (Fr.refl _ _)) ?_
     simp [rwordB,hw,l1,l2]
    ·have l2:¬s.length≤24:=by have:=of_decide_eq_false e2;omega
     refine useB (hQ _ (Fr.refl _ _)) ?_
     simp [rwordB,l2]
   ·have l1:¬1≤s.length:=by have:=of_decide_eq_false e1;omega
    refine useB (hQ _ (Fr.refl _ _)) ?_
    simp [rwordB,l1]
 ·exact ⟨0,rfl,Nat.zero_le _,rfl,fun j _ h=>absurd h (by omega),by simp(disch:=(try simp only[hN]);omega)only[go_sem,simprocAttr],by simp(disch:=(try simp only[hN]);omega)only[go_sem,simprocAttr],rfl⟩
theorem rrank_spec {s:Bs} {h:AHeap} {Q:QR} (hQ:Q (.ret (.int .i64 (rankN s:Int))) h):WF F 69 [.str s] h Q:=by
 refine WF.code F69 rfl ?_
 simp(disch:=(try simp only[hN]);omega)only[go_sem,simprocAttr]
 repeat' ((first|refine kA (fun hb=>?_) (fun hb=>?_)|refine kB (fun hb=>?_) (fun hb=>?_)|refine kC (fun hb=>?_) (fun hb=>?_)|refine kD (fun hb=>?_) (fun hb=>?_)|refine kE (fun hb=>?_) (fun hb=>?_)|refine kF (fun hb=>?_) (fun hb=>?_))<;>simp(disch:=(try simp only[hN]);omega)only[go_sem,simprocAttr,hb])
 all_goals
  have e:∀k:Int,k=(rankN s:Int)→Q (.ret (.int .i64 k)) h:=fun k e=>e ▸ hQ
  refine e _ ?_
  clear hQ e
  simp only[rankN,rks,rkOf,List.contains_cons,List.contains_nil,Bool.or_false, *]
  try simp [*]
def hasV (L:Bs):List AV:=(List.range 128).map fun i=>.bool (L.contains (UInt8.ofNat i))
theorem hasV_len (L:Bs):(hasV L).length=128:=by simp [hasV]
theorem hasV_get (L:Bs) {i:Nat} (h:i<128):(hasV L)[i]?=some (.bool (L.contains (UInt8.ofNat i))):=by
 unfold hasV
 rw[List.getElem?_map,List.getElem?_range h];rfl
theorem hasV_lay (L:Bs) (c:UInt8) (h:c.toNat<128):lay (hasV L) c.toNat [.bool true]=some (hasV (L++[c])):=by
 have hl:lay (hasV L) c.toNat [.bool true]=some ((hasV L).take c.toNat++([.bool true]++(hasV L).drop (c.toNat+1))):=by
  unfold lay
  rw[show (c.toNat+[AV.bool true].length).ble (hasV L).length=true from Nat.ble_eq_true_of_le (by rw[hasV_len];simp;omega)]
  rfl
 rw[hl]
 congr 1
 refine List.ext_getElem? fun i=>?_
 have hg:=lay_get hl i
 rw[hg]
 by_cases hi:i<128
 ·rw[hasV_get _ hi]
  by_cases e:c.toNat≤i∧i<c.toNat+[AV.bool true].length
  ·rw[if_pos e]
   have e2:i=c.toNat:=by simp at e;omega
   subst e2
   rw[hasV_get _ hi]
   simp
  ·rw[if_neg e,hasV_get _ hi]
   have:UInt8.ofNat i≠c:=by
    intro q
    have:=congrArg UInt8.toNat q
    rw[UInt8.toNat_ofNat'] at this
    simp at e
    omega
   simp [this]
 ·have h1:∀L,(hasV L)[i]?=none:=fun L=>List.getElem?_eq_none (by rw[hasV_len];omega)
  rw[h1,h1,if_neg (by simp;omega)]
theorem fields_spec {nd:Nd} {kv:AV} {L:Bs} {h:AHeap} {Q:QR} (hkf:kv.flat=true) (hkc:kv.cells=[kv]) (hl:L.length≤3) (hc:∀c∈L,c.toNat<128) (hQ:∀h',Fr h.n h h'→Q (.ret (.bool (fldB (L.contains 110) (L.contains 116) (L.contains 119) (L.contains 98) nd))) h'):WF F 61 [.agg (ndC nd kv),.str L] h Q:=by
 refine WF.code F61 rfl ?_
 simp(disch:=(try simp only[hN]);omega)only[go_sem,simprocAttr,hkf,hkc]
 generalize hH:AHeap.upd _ _ _ _=H
 have H0:H.get h.n=some ⟨0,.cells .own 0 (ndC nd kv)⟩:=by rw[←hH];simp(disch:=(try simp only[hN]);omega)only[go_sem,simprocAttr]
 have H1:H.get (h.n+1)=some ⟨1,.cells .own 0 (hasV (L.take 0))⟩:=by rw[←hH];(first|(simp(disch:=(try simp only[hN]);omega)only[go_sem,simprocAttr];done)|(simp(disch:=(try simp only[hN]);omega)only[go_sem,simprocAttr];rfl))
 have Hf:Fr h.n h H:=by rw[←hH];exact ⟨by (try simp only[hN]);omega,fun b hb hne=>by (try simp only[hN] at hb hne);simp(disch:=(try simp only[hN]);omega)only[go_sem,simprocAttr]⟩
 have Hn:h.n+2≤H.n:=by rw[←hH];simp(disch:=(try simp only[hN]);omega)only[go_sem,simprocAttr];exact Nat.le_refl _
 clear hH
 refine wp_loop (fun n a h'=>∃(j v:Nat),n=L.length-j∧j≤L.length∧Fr h.n h h'∧h.n+2≤h'.n∧h'.get h.n=some ⟨0,.cells .own 0 (ndC nd kv)⟩∧h'.get (h.n+1)=some ⟨v,.cells .own 0 (hasV (L.take j))⟩∧a.tm.get 1=some (.str L)∧a.tm.get 2=some (.ptr h.n 0)∧a.tm.get 5=some (.ptr (h.n+1) 0)∧a.tm.get 6=some (.int .i64 (j:Int))∧a.df=[]) ?_ L.length ?_
 ·rintro n ⟨t,df⟩ h2 ⟨j,v,hn,hj,f2,hn2,q0,q1,k1,k2,k5,k6,hdf⟩
  simp only at k1 k2 k5 k6 hdf
  subst hdf
  simp(disch:=(try simp only[hN]);omega)only[go_sem,simprocAttr,k1,k6]
  (first|refine kA (fun hlt=>?_) (fun hlt=>?_)|refine kB (fun hlt=>?_) (fun hlt=>?_)|refine kC (fun hlt=>?_) (fun hlt=>?_)|refine kD (fun hlt=>?_) (fun hlt=>?_)|refine kE (fun hlt=>?_) (fun hlt=>?_)|refine kF (fun hlt=>?_) (fun hlt=>?_))
  ·have hil:j<L.length:=(by have:=of_decide_eq_true hlt;omega)
   have hget:L[j]?=some L[j]:=List.getElem?_eq_getElem hil
   have htk:L.take (j+1)=L.take j++[L[j]]:=List.take_succ_eq_append_getElem hil
   have hcj:=hc L[j] (List.getElem_mem hil)
   generalize L[j]=c at hget htk hcj
   have hlay:=hasV_lay (L.take j) c hcj
   have c1:(decide ((0:Int)≤(c.toNat:Int))&&decide ((c.toNat:Int)<((128:Nat):Int)))=true:=by simp;omega
   simp(disch:=(try simp only[hN]);omega)only[go_sem,simprocAttr,k1,k2,k5,k6,hget,Int.toNat_natCast,c1,q1,hlay,Nat.mul_one,Nat.zero_add]
   exact ⟨_,hn ▸ Nat.sub_lt_sub_left hil (Nat.lt_succ_self j),j+1,v+1,rfl,hil,f2.updNew (by omega) _ _,hn2,q0,by rw[htk],rfl⟩
  ·have hil:j=L.length:=by have:=of_decide_eq_false hlt;omega
   subst hil
   rw[List.take_length] at q1
   have v1:(hasV L)[110]?=some (.bool (L.contains 110)):=hasV_get L (by decide)
   have v2:(hasV L)[116]?=some (.bool (L.contains 116)):=hasV_get L (by decide)
   have v3:(hasV L)[119]?=some (.bool (L.contains 119)):=hasV_get L (by decide)
   have v4:(hasV L)[98]?=some (.bool (L.contains 98)):=hasV_get L (by decide)
   generalize hasV L=V at q1 v1 v2 v3 v4
   have hq:∀b,b=fldB (L.contains 110) (L.contains 116) (L.contains 119) (L.contains 98) nd→∀h',Fr h.n h h'→Q (.ret (.bool b)) h':=fun b e=>e ▸ hQ
   clear hQ hc hn hlt hj hl k1 k6 H0 H1 Hf Hn
   generalize L.contains 110=b1 at v1 hq
   generalize L.contains 116=b2 at v2 hq
   generalize L.contains 119=b3 at v3 hq
   generalize L.contains 98=b4 at v4 hq
   simp(disch:=(try simp only[hN]);omega)only[go_sem,simprocAttr,k2,k5,q1,v1,Nat.mul_one,Nat.zero_add]
   unfold fldB at hq
   cases b1<;>cases b2<;>cases b3<;>cases b4<;>simp(disch:=(try simp only[hN]);omega)only[go_sem,simprocAttr,k2,k5,q0,q1,v1,v2,v3,v4,Nat.mul_one,Nat.zero_add] <;>
    (repeat' ((first|refine kA (fun hb=>?_) (fun hb=>?_)|refine kB (fun hb=>?_) (fun hb=>?_)|refine kC (fun hb=>?_) (fun hb=>?_)|refine kD (fun hb=>?_) (fun hb=>?_)|refine kE (fun hb=>?_) (fun hb=>?_)|refine kF (fun hb=>?_) (fun hb=>?_))<;>simp(disch:=(try simp only[hN]);omega)only[go_sem,simprocAttr,hb,k2,k5,q0,q1,v1,v2,v3,v4,Nat.mul_one,Nat.zero_add]))<;>exact hq _ (by simp only[Bool.true_or,Bool.false_or,Bool.true_and,Bool.and_true,Bool.false_and,Bool.and_false, *]) _ f2
 ·exact ⟨0,1,rfl,Nat.zero_le _,Hf,Hn,H0,H1,by simp(disch:=(try simp only[hN]);omega)only[go_sem,simprocAttr],by simp(disch:=(try simp only[hN]);omega)only[go_sem,simprocAttr],by simp(disch:=(try simp only[hN]);omega)only[go_sem,simprocAttr],by simp(disch:=(try simp only[hN]);omega)only[go_sem,simprocAttr],rfl⟩
end Go.Ev
