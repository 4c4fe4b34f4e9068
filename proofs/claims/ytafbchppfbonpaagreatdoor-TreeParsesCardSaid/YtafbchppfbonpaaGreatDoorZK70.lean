/- The document's reader of programs: declarations (printed by gen70.py). -/
import Derived.Test.YtafbchppfbonpaaGreatDoorZK68
import Derived.Test.YtafbchppfbonpaaGreatDoorZK53
set_option linter.all false
set_option linter.unusedVariables false
set_option linter.unusedSimpArgs false
namespace Go.Ev
open Go
set_option maxRecDepth 100000
set_option maxHeartbeats 4000000
theorem decl_chan {E:Nat} {ts:List Tok} (hk:(hdT E ts).kind=2) (ht:(hdT E ts).text=[99,104,97,110]):declP E ts=semiP E (fun _ _=>(match takeP E 1 ts.tail with|.error e=>.error e|.ok (t,ts1)=>match sizedP E ts1 with|.error e=>.error e|.ok (n,ts2)=>match typP E ts2 with|.error e=>.error e|.ok (y,ts3)=>.ok (.mk 5 (hdT E ts).pos t.text y n 0 0 0 [],ts3):PR)) 0 []:=by
 have hi:isT [[118,97,114],[109,117,116,101,120],[99,104,97,110],[97,116,111,109,105,99],[102,117,110,99]] ts=true:=by
  cases ts with
  | nil=>cases hk
  | cons t us=>simp only[hdT] at hk ht;simp [isT,hk,ht]
 rw[declP,if_pos hi]
 cases takeP E 1 ts.tail with
 | error e=>rfl
 | ok y=>
  obtain ⟨t,ts1⟩:=y
  simp only[ht,semiP]
  rw[if_neg (by decide),if_neg (by decide),if_pos trivial]
  ·skip
   cases sizedP E ts1 with
   | error e=>rfl
   | ok z=>
    obtain ⟨n,ts2⟩:=z
    simp only
    cases typP E ts2 with
    | error e=>rfl
    | ok z=>rfl
theorem decl_var {E:Nat} {ts:List Tok} (hk:(hdT E ts).kind=2) (ht:(hdT E ts).text=[118,97,114]):declP E ts=semiP E (fun _ _=>(match takeP E 1 ts.tail with|.error e=>.error e|.ok (t,ts1)=>if isT [[91]] ts1 then match sizedP E ts1 with|.error e=>.error e|.ok (n,ts2)=>match typP E ts2 with|.error e=>.error e|.ok (y,ts3)=>.ok (.mk 3 (hdT E ts).pos t.text y n 0 0 0 [],ts3) else match typP E ts1 with|.error e=>.error e|.ok (y,ts3)=>.ok (.mk 2 (hdT E ts).pos t.text y 0 0 0 0 [],ts3):PR)) 0 []:=by
 have hi:isT [[118,97,114],[109,117,116,101,120],[99,104,97,110],[97,116,111,109,105,99],[102,117,110,99]] ts=true:=by
  cases ts with
  | nil=>cases hk
  | cons t us=>simp only[hdT] at hk ht;simp [isT,hk,ht]
 rw[declP,if_pos hi]
 cases takeP E 1 ts.tail with
 | error e=>rfl
 | ok y=>
  obtain ⟨t,ts1⟩:=y
  simp only[ht,semiP]
  rw[if_neg (by decide),if_neg (by decide),if_neg (by decide),if_neg (by decide)]
  by_cases hb:isT [[91]] ts1=true
  ·rw[if_pos hb,if_pos hb]
   ·skip
    cases sizedP E ts1 with
    | error e=>rfl
    | ok z=>
     obtain ⟨n,ts2⟩:=z
     simp only
     cases typP E ts2 with
     | error e=>rfl
     | ok z=>rfl
  ·rw[if_neg hb,if_neg hb]
   cases typP E ts1 with
   | error e=>rfl
   | ok z=>rfl
theorem decl_func {E:Nat} {ts:List Tok} (hk:(hdT E ts).kind=2) (ht:(hdT E ts).text=[102,117,110,99]):declP E ts=(match takeP E 1 ts.tail with|.error e=>.error e|.ok (t,ts1)=>match paramsP E ts1 with|.error e=>.error e|.ok (ps,ts2)=>match blockP E (ts2.length+1) 0 ts2 with|.error e=>.error e|.ok (b,ts3)=>.ok (.mk 7 (hdT E ts).pos t.text 0 ps.length 0 0 0 (ps++[b]),ts3):PR):=by
 have hi:isT [[118,97,114],[109,117,116,101,120],[99,104,97,110],[97,116,111,109,105,99],[102,117,110,99]] ts=true:=by
  cases ts with
  | nil=>cases hk
  | cons t us=>simp only[hdT] at hk ht;simp [isT,hk,ht]
 rw[declP,if_pos hi]
 cases takeP E 1 ts.tail with
 | error e=>rfl
 | ok y=>
  obtain ⟨t,ts1⟩:=y
  simp only[ht,semiP]
  rw[if_neg (by decide),if_neg (by decide),if_neg (by decide),if_pos trivial]
  cases paramsP E ts1 with
  | error e=>rfl
  | ok z=>
   obtain ⟨ps,ts2⟩:=z
   simp only
   cases blockP E (ts2.length+1) 0 ts2 with
   | error e=>rfl
   | ok z=>rfl
theorem rdecl_tok {E:Nat} {h:AHeap} {r nx q:Nat} {all:List Tok} {Q:QR} (hmk:MkOk all) (hp:RInv h r E all nx 0 q) (hQ:∀h' n kv nx' e' q',Fr r h h'→RInv h' r E all nx' e' q'→kv.flat=true→kv.cells=[kv]→StA all 0 q (declP E (all.drop nx)) n nx' e' q'→(e'=0→KidsR h.n h' n.kids kv)→Q (.ret (.agg (ndC n kv))) h'):WF F 36 [.ptr r 0] h Q:=by
 refine WF.code F36 rfl ?_
 have hlt:=hp.hi
 have hsm:=hp.small
 simp(disch:=(try simp only[hN]);omega)only[go_sem,simprocAttr]
 refine place_tok (hp.fr ⟨by (try simp only[hN]);omega,fun b hb hne=>by (try simp only[hN] at hb hne);simp(disch:=(try simp only[hN]);omega)only[go_sem,simprocAttr]⟩) ?_
 generalize hP:(hdT E (all.drop nx)).pos=P
 simp(disch:=(try simp only[hN]);omega)only[go_sem,simprocAttr,zN]
 generalize hH:AHeap.upd (AHeap.alloc (AHeap.alloc _ _) _) _ _ _=H
 have hHn:H.n=h.n+2:=by rw[←hH];simp(disch:=(try simp only[hN]);omega)only[go_sem,simprocAttr]
 have b0:H.get (h.n+1)=some ⟨1,.cells .own 0 [.int .i64 0,.int .i64 (P:Int),.str [],.int .i64 0,.int .i64 0,.int .i64 0,.int .i64 0,.int .u64 0,.nilSlice]⟩:=by rw[←hH];simp(disch:=(try simp only[hN]);omega)only[go_sem,simprocAttr]
 have q0:H.get h.n=some ⟨0,.cells .own 0 zN⟩:=by rw[←hH];simp(disch:=(try simp only[hN]);omega)only[go_sem,simprocAttr,zN]
 have hpH:RInv H r E all nx 0 q:=by rw[←hH];exact hp.le (by simp only[hN];omega) fun b hb=>by simp(disch:=(try simp only[hN]);omega)only[go_sem,simprocAttr]
 have hfH:∀b',b'<h.n→b'≠r→H.get b'=h.get b':=fun b' hb1 hb2=>by rw[←hH];simp(disch:=(try simp only[hN]);omega)only[go_sem,simprocAttr]
 clear hH hp
 refine sees_tok hpH ?_
 intro h1 hf1
 have hn1:=hf1.n;try simp only[hN] at hn1
 have p1:=hpH.fr hf1
 have b1:=(hf1.all (b:=h.n+1) (by omega)).trans b0
 have q1:=(hf1.all (b:=h.n) (by omega)).trans q0
 have f1':∀b',b'<h.n→b'≠r→h1.get b'=h.get b':=fun b' hb1 hb2=>by simp(disch:=(try simp only[hN]);omega)only[go_sem,simprocAttr,hf1.old,hfH]
 have hltr:=p1.hi
 clear hf1 hpH b0 q0 hfH
 obtain ⟨ver1,vv1,r1,_,_,_⟩:=p1.st
 have i1:((nx:Int)+1)=((nx+1:Nat):Int):=by omega
 have hT1:(all.drop nx).tail=all.drop (nx+1):=drop_tail
 simp(disch:=(try simp only[hN]);omega)only[go_sem,simprocAttr]
 refine cond_cut2 (fun a h'=>∃ver',h'.get r=some ⟨ver',.cells .own 0 [vv1,.int .i64 (E:Int),.int .i64 ((nx+1:Nat):Int),.int .i64 0,.int .i64 (q:Int)]⟩∧RInv h' r E all (nx+1) 0 q∧h'.get (h.n+1)=some ⟨1,.cells .own 0 [.int .i64 0,.int .i64 (P:Int),.str [],.int .i64 0,.int .i64 0,.int .i64 0,.int .i64 0,.int .u64 0,.nilSlice]⟩∧h'.get h.n=some ⟨0,.cells .own 0 zN⟩∧h.n+1<h'.n∧(∀b',b'<h.n→b'≠r→h'.get b'=h.get b')∧(seesT 0 (all.drop nx)=[118,97,114]∨seesT 0 (all.drop nx)=[109,117,116,101,120]∨seesT 0 (all.drop nx)=[99,104,97,110]∨seesT 0 (all.drop nx)=[97,116,111,109,105,99]∨seesT 0 (all.drop nx)=[102,117,110,99])∧a.tm.get 0=some (.ptr r 0)∧a.tm.get 2=some (.ptr h.n 0)∧a.tm.get 3=some (.ptr (h.n+1) 0)∧a.tm.get 4=some (.str (seesT 0 (all.drop nx)))∧a.df=[]) ?_ ?_
 ·by_cases g_var:seesT 0 (all.drop nx)=[118,97,114]
  ·obtain ⟨_,hnx,_,_⟩:=sees_word (E:=E) hmk rfl (by decide) g_var
   simp(disch:=(try simp only[hN]);omega)only[go_sem,simprocAttr,eq_bs g_var,r1,i1,b1]
   exact ⟨_,rfl,p1.step2 (ver:=ver1) (ver':=ver1+1) (by simp only[hN];omega) (fun b hb=>by simp(disch:=(try simp only[hN]);omega)only[go_sem,simprocAttr]) (by omega) r1 (by simp(disch:=(try simp only[hN]);omega)only[go_sem,simprocAttr]),q1,by omega,fun b' hb1 hb2=>by simp(disch:=(try simp only[hN]);omega)only[go_sem,simprocAttr,f1'],.inl g_var⟩
  simp(disch:=(try simp only[hN]);omega)only[go_sem,simprocAttr,ne_bs g_var]
  by_cases g_mutex:seesT 0 (all.drop nx)=[109,117,116,101,120]
  ·obtain ⟨_,hnx,_,_⟩:=sees_word (E:=E) hmk rfl (by decide) g_mutex
   simp(disch:=(try simp only[hN]);omega)only[go_sem,simprocAttr,eq_bs g_mutex,r1,i1,b1]
   exact ⟨_,rfl,p1.step2 (ver:=ver1) (ver':=ver1+1) (by simp only[hN];omega) (fun b hb=>by simp(disch:=(try simp only[hN]);omega)only[go_sem,simprocAttr]) (by omega) r1 (by simp(disch:=(try simp only[hN]);omega)only[go_sem,simprocAttr]),q1,by omega,fun b' hb1 hb2=>by simp(disch:=(try simp only[hN]);omega)only[go_sem,simprocAttr,f1'],.inr (.inl g_mutex)⟩
  simp(disch:=(try simp only[hN]);omega)only[go_sem,simprocAttr,ne_bs g_mutex]
  by_cases g_chan:seesT 0 (all.drop nx)=[99,104,97,110]
  ·obtain ⟨_,hnx,_,_⟩:=sees_word (E:=E) hmk rfl (by decide) g_chan
   simp(disch:=(try simp only[hN]);omega)only[go_sem,simprocAttr,eq_bs g_chan,r1,i1,b1]
   exact ⟨_,rfl,p1.step2 (ver:=ver1) (ver':=ver1+1) (by simp only[hN];omega) (fun b hb=>by simp(disch:=(try simp only[hN]);omega)only[go_sem,simprocAttr]) (by omega) r1 (by simp(disch:=(try simp only[hN]);omega)only[go_sem,simprocAttr]),q1,by omega,fun b' hb1 hb2=>by simp(disch:=(try simp only[hN]);omega)only[go_sem,simprocAttr,f1'],.inr (.inr (.inl g_chan))⟩
  simp(disch:=(try simp only[hN]);omega)only[go_sem,simprocAttr,ne_bs g_chan]
  by_cases g_atomic:seesT 0 (all.drop nx)=[97,116,111,109,105,99]
  ·obtain ⟨_,hnx,_,_⟩:=sees_word (E:=E) hmk rfl (by decide) g_atomic
   simp(disch:=(try simp only[hN]);omega)only[go_sem,simprocAttr,eq_bs g_atomic,r1,i1,b1]
   exact ⟨_,rfl,p1.step2 (ver:=ver1) (ver':=ver1+1) (by simp only[hN];omega) (fun b hb=>by simp(disch:=(try simp only[hN]);omega)only[go_sem,simprocAttr]) (by omega) r1 (by simp(disch:=(try simp only[hN]);omega)only[go_sem,simprocAttr]),q1,by omega,fun b' hb1 hb2=>by simp(disch:=(try simp only[hN]);omega)only[go_sem,simprocAttr,f1'],.inr (.inr (.inr (.inl g_atomic)))⟩
  simp(disch:=(try simp only[hN]);omega)only[go_sem,simprocAttr,ne_bs g_atomic]
  by_cases g_func:seesT 0 (all.drop nx)=[102,117,110,99]
  ·obtain ⟨_,hnx,_,_⟩:=sees_word (E:=E) hmk rfl (by decide) g_func
   simp(disch:=(try simp only[hN]);omega)only[go_sem,simprocAttr,eq_bs g_func,r1,i1,b1]
   exact ⟨_,rfl,p1.step2 (ver:=ver1) (ver':=ver1+1) (by simp only[hN];omega) (fun b hb=>by simp(disch:=(try simp only[hN]);omega)only[go_sem,simprocAttr]) (by omega) r1 (by simp(disch:=(try simp only[hN]);omega)only[go_sem,simprocAttr]),q1,by omega,fun b' hb1 hb2=>by simp(disch:=(try simp only[hN]);omega)only[go_sem,simprocAttr,f1'],.inr (.inr (.inr (.inr (g_func))))⟩
  simp(disch:=(try simp only[hN]);omega)only[go_sem,simprocAttr,ne_bs g_func]
  refine fail_tok (k:=2) p1 ?_
  intro h3 hf3 p3
  have hn3:=hf3.n;try simp only[hN] at hn3
  rw[if_pos rfl,if_pos rfl] at p3
  have b3:=(hf3.old (h.n+1) (by omega) (by omega)).trans b1
  have q3':=(hf3.old h.n (by omega) (by omega)).trans q1
  have f3:∀b',b'<h.n→b'≠r→h3.get b'=h.get b':=fun b' hb1 hb2=>by simp(disch:=(try simp only[hN]);omega)only[go_sem,simprocAttr,hf3.old,f1']
  simp(disch:=(try simp only[hN]);omega)only[go_sem,simprocAttr,b3,q3',zN]
  have hW:isT [[118,97,114],[109,117,116,101,120],[99,104,97,110],[97,116,111,109,105,99],[102,117,110,99]] (all.drop nx)=false:=by
   cases hb:isT [[118,97,114],[109,117,116,101,120],[99,104,97,110],[97,116,111,109,105,99],[102,117,110,99]] (all.drop nx)
   ·rfl
   exfalso
   obtain ⟨hk,hc⟩:=isT_kind (E:=E) hb
   have hs:seesT 0 (all.drop nx)=(hdT E (all.drop nx)).text:=by
    cases hd:all.drop nx with
    | nil=>rw[hd] at hb;cases hb
    | cons t ts=>rw[hd] at hk;simp only[hdT] at hk;simp [seesT,hdT,hk]
   rw[←hs] at hc
   simp only[List.contains_cons,List.contains_nil,ne_bs g_var,ne_bs g_mutex,ne_bs g_chan,ne_bs g_atomic,ne_bs g_func,Bool.or_false] at hc
   cases hc
  refine hQ _ (.mk 0 P [] 0 0 0 0 0 []) .nilSlice nx 2 _ ?_ ?_ rfl rfl ⟨fun _=>.inr ⟨by decide,by rw[declP,if_neg (by rw[hW];decide)]⟩,fun h=>absurd rfl h⟩ fun h=>by cases h
  ·exact ⟨by (try simp only[hN]);omega,fun b hb hne=>by (try simp only[hN] at hb hne);simp(disch:=(try simp only[hN]);omega)only[go_sem,simprocAttr,f3]⟩
  ·exact p3.le (by simp only[hN];omega) fun b hb=>by simp(disch:=(try simp only[hN]);omega)only[go_sem,simprocAttr]
 ·rintro ⟨t,df⟩ H1 ⟨verr,rr,p2,b2,q2,hn2,f2,hw,k0,k2,k3,k4,hdf⟩
  simp only at k0 k2 k3 k4 hdf
  subst hdf
  clear f1' q1 b1 p1 r1
  simp(disch:=(try simp only[hN]);omega)only[go_sem,simprocAttr,k0,k2,k3,k4]
  refine token_tok (k:=1) (by decide) p2 ?_
  refine TokQ'.all ?_
  intro h3 nx3 e3 q3 tk hf3 p3 st3
  have hn3:=hf3.n;try simp only[hN] at hn3
  have b3:=(hf3.old (h.n+1) (by omega) (by omega)).trans b2
  have q3':=(hf3.old h.n (by omega) (by omega)).trans q2
  have f3:∀b',b'<h.n→b'≠r→h3.get b'=h.get b':=fun b' hb1 hb2=>by simp(disch:=(try simp only[hN]);omega)only[go_sem,simprocAttr,hf3.old,f2]
  clear hf3 f2 q2 b2 p2
  simp(disch:=(try simp only[hN]);omega)only[go_sem,simprocAttr,tokAV,k0,k2,k3,k4,b3]
  generalize hHH:AHeap.upd h3 _ _ _=HT
  have hnHT:HT.n=h3.n:=by rw[←hHH];simp(disch:=(try simp only[hN]);omega)only[go_sem,simprocAttr]
  have bHT:HT.get (h.n+1)=some ⟨2,.cells .own 0 [.int .i64 0,.int .i64 (P:Int),.str tk.text,.int .i64 0,.int .i64 0,.int .i64 0,.int .i64 0,.int .u64 0,.nilSlice]⟩:=by rw[←hHH];simp(disch:=(try simp only[hN]);omega)only[go_sem,simprocAttr]
  have qHT:HT.get h.n=some ⟨0,.cells .own 0 zN⟩:=by rw[←hHH];simp(disch:=(try simp only[hN]);omega)only[go_sem,simprocAttr,q3']
  have pHT:RInv HT r E all nx3 e3 q3:=by
   rw[←hHH]
   exact p3.le (by simp only[hN];omega) fun b hb=>by simp(disch:=(try simp only[hN]);omega)only[go_sem,simprocAttr]
  have fHT:∀b',b'<h.n→b'≠r→HT.get b'=h.get b':=fun b' hb1 hb2=>by rw[←hHH];simp(disch:=(try simp only[hN]);omega)only[go_sem,simprocAttr,f3]
  clear hHH
  refine cond_cut1 (fun a h'=>∃D0 n nx' e' q' v2,declP E (all.drop nx)=semiP E (fun _ _=>D0) 0 []∧StA all 0 q D0 n nx' e' q'∧n.kids=[]∧h'.get (h.n+1)=some ⟨v2,.cells .own 0 (ndC n .nilSlice)⟩∧h'.get h.n=some ⟨0,.cells .own 0 zN⟩∧h.n+1<h'.n∧RInv h' r E all nx' e' q'∧(∀b',b'<h.n→b'≠r→h'.get b'=h.get b')∧a.tm.get 0=some (.ptr r 0)∧a.tm.get 2=some (.ptr h.n 0)∧a.tm.get 3=some (.ptr (h.n+1) 0)∧a.df=[]) ?_ ?_
  ·by_cases g_mutex:seesT 0 (all.drop nx)=[109,117,116,101,120]
   ·obtain ⟨_,hnx,k2',ht⟩:=sees_word (E:=E) hmk rfl (by decide) g_mutex
    simp(disch:=(try simp only[hN]);omega)only[go_sem,simprocAttr,eq_bs g_mutex,bHT,k0,k2,k3]
    have hD:declP E (all.drop nx)=semiP E (fun _ _=>(match takeP E 1 (all.drop nx).tail with|.error e=>.error e|.ok (t,ts1)=>.ok (nd0 4 P t.text [],ts1):PR)) 0 []:=by
     have hi:isT [[118,97,114],[109,117,116,101,120],[99,104,97,110],[97,116,111,109,105,99],[102,117,110,99]] (all.drop nx)=true:=by
      cases hd:all.drop nx with
      | nil=>rw[hd] at k2';cases k2'
      | cons t ts=>rw[hd] at k2' ht;simp only[hdT] at k2' ht;simp [isT,k2',ht]
     rw[declP,if_pos hi]
     cases takeP E 1 (all.drop nx).tail with
     | error e=>rfl
     | ok y=>simp [ht,semiP,hP]
    refine ⟨_,nd0 4 P tk.text [],nx3,e3,q3,_,hD,⟨fun _=>?_,fun h=>absurd rfl h⟩,rfl,rfl,qHT,by omega,pHT.le (by simp only[hN];omega) fun b hb=>by simp(disch:=(try simp only[hN]);omega)only[go_sem,simprocAttr],fun b' hb1 hb2=>by simp(disch:=(try simp only[hN]);omega)only[go_sem,simprocAttr,fHT]⟩
    rcases st3.1 rfl with ⟨h0,hq,hx⟩|⟨h0,hx⟩
    ·exact .inl ⟨h0,hq,by rw[drop_tail,hx]⟩
    ·exact .inr ⟨h0,by rw[drop_tail,hx]⟩
   simp(disch:=(try simp only[hN]);omega)only[go_sem,simprocAttr,ne_bs g_mutex]
   by_cases g_atomic:seesT 0 (all.drop nx)=[97,116,111,109,105,99]
   ·obtain ⟨_,hnx,k2',ht⟩:=sees_word (E:=E) hmk rfl (by decide) g_atomic
    simp(disch:=(try simp only[hN]);omega)only[go_sem,simprocAttr,eq_bs g_atomic,bHT,k0,k2,k3]
    have hD:declP E (all.drop nx)=semiP E (fun _ _=>(match takeP E 1 (all.drop nx).tail with|.error e=>.error e|.ok (t,ts1)=>.ok (nd0 6 P t.text [],ts1):PR)) 0 []:=by
     have hi:isT [[118,97,114],[109,117,116,101,120],[99,104,97,110],[97,116,111,109,105,99],[102,117,110,99]] (all.drop nx)=true:=by
      cases hd:all.drop nx with
      | nil=>rw[hd] at k2';cases k2'
      | cons t ts=>rw[hd] at k2' ht;simp only[hdT] at k2' ht;simp [isT,k2',ht]
     rw[declP,if_pos hi]
     cases takeP E 1 (all.drop nx).tail with
     | error e=>rfl
     | ok y=>simp [ht,semiP,hP]
    refine ⟨_,nd0 6 P tk.text [],nx3,e3,q3,_,hD,⟨fun _=>?_,fun h=>absurd rfl h⟩,rfl,rfl,qHT,by omega,pHT.le (by simp only[hN];omega) fun b hb=>by simp(disch:=(try simp only[hN]);omega)only[go_sem,simprocAttr],fun b' hb1 hb2=>by simp(disch:=(try simp only[hN]);omega)only[go_sem,simprocAttr,fHT]⟩
    rcases st3.1 rfl with ⟨h0,hq,hx⟩|⟨h0,hx⟩
    ·exact .inl ⟨h0,hq,by rw[drop_tail,hx]⟩
    ·exact .inr ⟨h0,by rw[drop_tail,hx]⟩
   simp(disch:=(try simp only[hN]);omega)only[go_sem,simprocAttr,ne_bs g_atomic]
   by_cases g_func:seesT 0 (all.drop nx)=[102,117,110,99]
   ·obtain ⟨_,hnx,k2',ht⟩:=sees_word (E:=E) hmk rfl (by decide) g_func
    simp(disch:=(try simp only[hN]);omega)only[go_sem,simprocAttr,eq_bs g_func,bHT,k0,k2,k3]
    generalize hHH:AHeap.upd HT _ _ _=HU
    have hnHU:HU.n=HT.n:=by rw[←hHH];simp(disch:=(try simp only[hN]);omega)only[go_sem,simprocAttr]
    have bHU:HU.get (h.n+1)=some ⟨3,.cells .own 0 [.int .i64 7,.int .i64 (P:Int),.str tk.text,.int .i64 0,.int .i64 0,.int .i64 0,.int .i64 0,.int .u64 0,.nilSlice]⟩:=by rw[←hHH];simp(disch:=(try simp only[hN]);omega)only[go_sem,simprocAttr,bHT]
    have qHU:HU.get h.n=some ⟨0,.cells .own 0 zN⟩:=by rw[←hHH];simp(disch:=(try simp only[hN]);omega)only[go_sem,simprocAttr,qHT]
    have pHU:RInv HU r E all nx3 e3 q3:=by
     rw[←hHH]
     exact pHT.le (by simp only[hN];omega) fun b hb=>by simp(disch:=(try simp only[hN]);omega)only[go_sem,simprocAttr]
    have fHU:∀b',b'<h.n→b'≠r→HU.get b'=h.get b':=fun b' hb1 hb2=>by rw[←hHH];simp(disch:=(try simp only[hN]);omega)only[go_sem,simprocAttr,fHT]
    clear hHH
    refine eat_tok (by decide) pHU ?_
    refine EatQ.all ?_
    intro h4 nx4 e4 q4 hf4 p4 s4
    have hn4:=hf4.n;try simp only[hN] at hn4
    have b4:=(hf4.old (h.n+1) (by omega) (by omega)).trans bHU
    have q4':=(hf4.old h.n (by omega) (by omega)).trans qHU
    have f4:∀b',b'<h.n→b'≠r→h4.get b'=h.get b':=fun b' hb1 hb2=>by simp(disch:=(try simp only[hN]);omega)only[go_sem,simprocAttr,hf4.old,fHU]
    clear hf4 fHU bHU qHU
    simp(disch:=(try simp only[hN]);omega)only[go_sem,simprocAttr,k0,k2,k3,k4]
    refine sees_tok p4 ?_
    intro h5 hf5
    have hn5:=hf5.n;try simp only[hN] at hn5
    have b5:=(hf5.all (b:=h.n+1) (by omega)).trans b4
    have q5':=(hf5.all (b:=h.n) (by omega)).trans q4'
    have p5:=p4.fr hf5
    have f5:∀b',b'<h.n→b'≠r→h5.get b'=h.get b':=fun b' hb1 hb2=>by simp(disch:=(try simp only[hN]);omega)only[go_sem,simprocAttr,hf5.all,f4]
    clear hf5 b4 q4' p4 f4
    have hR:∃R,commaP E (paramP E) (all.drop nx4)=R:=⟨_,rfl⟩
    obtain ⟨R,hR⟩:=hR
    have hz:R≠.error (0,0):=by
     rw[←hR]
     exact (commaP_fine (E:=E) (x:=paramP E) paramP_fine _).ne
    have k2o:=k2'
    have hlt5:=p5.hi
    simp(disch:=(try simp only[hN]);omega)only[go_sem,simprocAttr]
    refine cond_cut (fun a h'=>∃ns v nx' e' q' v2,GK (e'=0) h.n h' v ns∧RInv h' r E all nx' e' q'∧h'.get (h.n+1)=some ⟨v2,.cells .own 0 [.int .i64 7,.int .i64 (P:Int),.str tk.text,.int .i64 0,.int .i64 (ns.length:Int),.int .i64 0,.int .i64 0,.int .u64 0,v]⟩∧h'.get h.n=some ⟨0,.cells .own 0 zN⟩∧h.n+1<h'.n∧(∀b',b'<h.n→b'≠r→h'.get b'=h.get b')∧ns.length≤2001∧StA all e4 q4 R ns nx' e' q'∧a.tm.get 0=some (.ptr r 0)∧a.tm.get 2=some (.ptr h.n 0)∧a.tm.get 3=some (.ptr (h.n+1) 0)∧a.df=[]) ?_ ?_
    ·by_cases g41:seesT e4 (all.drop nx4)=[41]
     ·have he4:e4=0:=by
       by_cases h0:e4=0
       ·exact h0
       ·simp [seesT,h0] at g41
      subst he4
      have hi:isT [[41]] (all.drop nx4)=true:=by rw[←seesT_is (by decide),g41];rfl
      simp(disch:=(try simp only[hN]);omega)only[go_sem,simprocAttr,bne,eq_bs g41,k0,k2,k3,k4]
      exact ⟨[],.nilSlice,nx4,0,q4,3,GK.nil,p5,b5,q5',by omega,f5,Nat.zero_le _,⟨fun _=>.inl ⟨rfl,rfl,by rw[←hR,commaP,if_pos hi]⟩,fun h=>absurd rfl h⟩⟩
     simp(disch:=(try simp only[hN]);omega)only[go_sem,simprocAttr,bne,ne_bs g41]
     refine wp_loopx 2 (fun g a h'=>∃ns v nx' e' q' v2,GK (e'=0) h.n h' v ns∧RInv h' r E all nx' e' q'∧h'.get (h.n+1)=some ⟨v2,.cells .own 0 [.int .i64 7,.int .i64 (P:Int),.str tk.text,.int .i64 0,.int .i64 (ns.length:Int),.int .i64 0,.int .i64 0,.int .u64 0,v]⟩∧h'.get h.n=some ⟨0,.cells .own 0 zN⟩∧h.n+1<h'.n∧(∀b',b'<h.n→b'≠r→h'.get b'=h.get b')∧ns.length+g≤2001∧(e'=0→e4=0∧q'=q4∧commaL E (paramP E) g ns (all.drop nx')=R)∧(e'≠0→StA all e4 q4 R ns nx' e' q')∧a.tm.get 0=some (.ptr r 0)∧a.tm.get 2=some (.ptr h.n 0)∧a.tm.get 3=some (.ptr (h.n+1) 0)∧a.df=[])
      (fun a h'=>∃ns v nx' e' q' v2,GK (e'=0) h.n h' v ns∧RInv h' r E all nx' e' q'∧h'.get (h.n+1)=some ⟨v2,.cells .own 0 [.int .i64 7,.int .i64 (P:Int),.str tk.text,.int .i64 0,.int .i64 (ns.length:Int),.int .i64 0,.int .i64 0,.int .u64 0,v]⟩∧h'.get h.n=some ⟨0,.cells .own 0 zN⟩∧h.n+1<h'.n∧(∀b',b'<h.n→b'≠r→h'.get b'=h.get b')∧ns.length≤2001∧StA all e4 q4 R ns nx' e' q'∧a.tm.get 0=some (.ptr r 0)∧a.tm.get 2=some (.ptr h.n 0)∧a.tm.get 3=some (.ptr (h.n+1) 0)∧a.df=[]) ?_ ?_ ((all.drop nx4).length+1) ?_
     ·clear k0 k2 k3 k4 b5 q5' p5 f5 hw
      rintro g ⟨t,df⟩ h3 ⟨ns,v,nx',e',q',v2,hg,hp3,b3,q3',hn3,hf3,hlen,hgood,hbad,k0,k2,k3,hdf⟩
      simp only at k0 k2 k3 hdf
      subst hdf
      have hlt3:=hp3.hi
      obtain ⟨ver,vv,hr,hl,_,_⟩:=hp3.st
      by_cases he':e'=0
      ·obtain ⟨he1,hq,hcl⟩:=hgood he'
       subst he' he1 hq
       cases g with
       | zero=>exact absurd hcl.symm hz
       | succ g=>
        rw[commaL] at hcl
        have i0:(((0:Nat):Int)==0)=true:=rfl
        simp(disch:=(try simp only[hN]);omega)only[go_sem,simprocAttr,k0,k2,k3,hr,i0]
        refine token_tok (k:=1) (by decide) hp3 ?_
        refine TokQ'.all ?_
        intro hA nxA eA qA tA hfA pA sA
        have hnA:=hfA.n;try simp only[hN] at hnA
        have bA:=(hfA.old (h.n+1) (by omega) (by omega)).trans b3
        have qA':=(hfA.old h.n (by omega) (by omega)).trans q3'
        have gA:=hg.fr hfA (.inl hlt)
        have fA:∀b',b'<h.n→b'≠r→hA.get b'=h.get b':=fun b' hb1 hb2=>by simp(disch:=(try simp only[hN]);omega)only[go_sem,simprocAttr,hfA.old,hf3]
        clear hfA
        simp(disch:=(try simp only[hN]);omega)only[go_sem,simprocAttr,tokAV,k0,k2,k3,bA]
        generalize hHH:AHeap.upd (AHeap.alloc hA _) _ _ _=HB
        have hnHB:HB.n=hA.n+1:=by rw[←hHH];simp(disch:=(try simp only[hN]);omega)only[go_sem,simprocAttr]
        have tB:HB.get hA.n=some ⟨1,.cells .own 0 [.int .i64 (tA.kind:Int),.str tA.text,.int .i64 (tA.n:Int),.int .u64 tA.bits,.int .i64 (tA.pos:Int)]⟩:=by rw[←hHH];simp(disch:=(try simp only[hN]);omega)only[go_sem,simprocAttr]
        have bB:HB.get (h.n+1)=some ⟨v2,.cells .own 0 [.int .i64 7,.int .i64 (P:Int),.str tk.text,.int .i64 0,.int .i64 (ns.length:Int),.int .i64 0,.int .i64 0,.int .u64 0,v]⟩:=by rw[←hHH];simp(disch:=(try simp only[hN]);omega)only[go_sem,simprocAttr,bA]
        have qB:HB.get h.n=some ⟨0,.cells .own 0 zN⟩:=by rw[←hHH];simp(disch:=(try simp only[hN]);omega)only[go_sem,simprocAttr,qA']
        have gB:GK (0=0) h.n HB v ns:=gA.keep id (by omega) (fun b _ _ _ hb _=>by rw[←hHH];simp(disch:=(try simp only[hN]);omega)only[go_sem,simprocAttr]) fun _ b _ _ _ _ hb _=>by rw[←hHH];simp(disch:=(try simp only[hN]);omega)only[go_sem,simprocAttr]
        have pB:RInv HB r E all nxA eA qA:=pA.le (by omega) fun b hb=>by rw[←hHH];simp(disch:=(try simp only[hN]);omega)only[go_sem,simprocAttr]
        have fB:∀b',b'<h.n→b'≠r→HB.get b'=h.get b':=fun b' hb1 hb2=>by rw[←hHH];simp(disch:=(try simp only[hN]);omega)only[go_sem,simprocAttr,fA]
        clear hHH bA qA' gA fA
        refine rtyp_tok hmk pB ?_
        intro hC nxC eC qC y hfC pC sC
        have hnC:=hfC.n;try simp only[hN] at hnC
        have tC:=(hfC.old hA.n (by omega) (by omega)).trans tB
        have bC:=(hfC.old (h.n+1) (by omega) (by omega)).trans bB
        have qC':=(hfC.old h.n (by omega) (by omega)).trans qB
        have fC:∀b',b'<h.n→b'≠r→hC.get b'=h.get b':=fun b' hb1 hb2=>by simp(disch:=(try simp only[hN]);omega)only[go_sem,simprocAttr,hfC.old,fB]
        have gC:GK (0=0) h.n (hC.alloc (.cells .own 9 (ndC (.mk 8 tA.pos tA.text y 0 0 0 0 []) .nilSlice))) v ns:=(gB.fr hfC (.inl hlt)).fr (Fr.alloc (Fr.refl hC.n hC) _) (.inr (Nat.le_refl _))
        obtain ⟨v6,hD,happ,hgD,hbD,hnD,hoD⟩:=gC.append (g':=eC=0) (kv:=.nilSlice) (n:=.mk 8 tA.pos tA.text y 0 0 0 0 []) (m:=HB.n) (by simp only[hN];omega) (by omega) rfl (fun h0=>⟨rfl,.nil⟩) (by omega) (fun b hb=>(gB.blk hb).2.1)
        have hvB:blkV v≠some (h.n+1):=fun e=>by
         obtain ⟨_,_,_,_,hc⟩:=gB.blk e
         rw[bB] at hc;cases hc
        have hvN:blkV v≠some h.n:=fun e=>by
         obtain ⟨_,_,_,_,hc⟩:=gB.blk e
         rw[qB] at hc;cases hc
        have bD:hD.get (h.n+1)=some ⟨v2,.cells .own 0 [.int .i64 7,.int .i64 (P:Int),.str tk.text,.int .i64 0,.int .i64 (ns.length:Int),.int .i64 0,.int .i64 0,.int .u64 0,v]⟩:=by rw[hoD (h.n+1) (by simp only[hN];omega) hvB];simp(disch:=(try simp only[hN]);omega)only[go_sem,simprocAttr,bC]
        have qD:hD.get h.n=some ⟨0,.cells .own 0 zN⟩:=by rw[hoD h.n (by simp only[hN];omega) hvN];simp(disch:=(try simp only[hN]);omega)only[go_sem,simprocAttr,qC']
        have fD:∀b',b'<h.n→b'≠r→hD.get b'=h.get b':=fun b' hb1 hb2=>by
         rw[hoD b' (by simp only[hN];omega) (fun e=>by have:=(gB.blk e).1;omega)]
         simp(disch:=(try simp only[hN]);omega)only[go_sem,simprocAttr,fC]
        have pD:RInv hD r E all nxC eC qC:=pC.le (by rw[hnD];simp(disch:=(try simp only[hN]);omega)only[go_sem,simprocAttr];omega) fun b hb=>by
         rw[hoD b (by simp only[hN];omega) (fun e=>by have:=(gB.blk e).1;omega)]
         simp(disch:=(try simp only[hN]);omega)only[go_sem,simprocAttr]
        simp only[AHeap.alloc_n] at hnD
        simp only[ndC,Nd.kind,Nd.pos,Nd.name,Nd.typ,Nd.n,Nd.size,Nd.obj,Nd.bits] at happ
        have iN:((ns.length:Int)+1)=((ns.length+1:Nat):Int):=by omega
        simp(disch:=(try simp only[hN]);omega)only[go_sem,simprocAttr,k0,k2,k3,tB,tC,happ,bB,bC,bD,hgD.flat.1,hgD.flat.2,iN]
        generalize hHH:AHeap.upd (AHeap.upd hD _ _ _) _ _ _=HG
        have hnHG:HG.n=hD.n:=by rw[←hHH];simp(disch:=(try simp only[hN]);omega)only[go_sem,simprocAttr]
        have bG:HG.get (h.n+1)=some ⟨v2+1+1,.cells .own 0 [.int .i64 7,.int .i64 (P:Int),.str tk.text,.int .i64 0,.int .i64 ((ns.length+1:Nat):Int),.int .i64 0,.int .i64 0,.int .u64 0,v6]⟩:=by rw[←hHH];simp(disch:=(try simp only[hN]);omega)only[go_sem,simprocAttr]
        have qG:HG.get h.n=some ⟨0,.cells .own 0 zN⟩:=by rw[←hHH];simp(disch:=(try simp only[hN]);omega)only[go_sem,simprocAttr,qD]
        have gG:GK (eC=0) h.n HG v6 (ns++[.mk 8 tA.pos tA.text y 0 0 0 0 []]):=hgD.keep id (by omega) (fun b _ _ hb1 hb2 hb3=>by
         have:b≠h.n+1:=by rintro rfl;rw[bD] at hb3;cases hb3
         rw[←hHH];simp(disch:=(try simp only[hN]);omega)only[go_sem,simprocAttr]) fun _ b _ _ _ hb1 hb2 hb3=>by
         have:b≠h.n+1:=by rintro rfl;rw[bD] at hb3;cases hb3
         rw[←hHH];simp(disch:=(try simp only[hN]);omega)only[go_sem,simprocAttr]
        have pG:RInv HG r E all nxC eC qC:=pD.le (by omega) fun b hb=>by rw[←hHH];simp(disch:=(try simp only[hN]);omega)only[go_sem,simprocAttr]
        have fG:∀b',b'<h.n→b'≠r→HG.get b'=h.get b':=fun b' hb1 hb2=>by rw[←hHH];simp(disch:=(try simp only[hN]);omega)only[go_sem,simprocAttr,fD]
        clear hHH bD qD hgD fD pD hoD happ gC tB tC bB bC qB qC' fB fC pB pC hfC
        refine sees_tok pG ?_
        intro h6 hf6
        have hn6:=hf6.n;try simp only[hN] at hn6
        have p6:=pG.fr hf6
        have g6:=gG.fr hf6 (.inr (Nat.le_refl _))
        have b6:=(hf6.all (b:=h.n+1) (by omega)).trans bG
        have q6':=(hf6.all (b:=h.n) (by omega)).trans qG
        have f6:∀b',b'<h.n→b'≠r→h6.get b'=h.get b':=fun b' hb1 hb2=>by rw[hf6.all (by omega),fG b' hb1 hb2]
        obtain ⟨ver6,vv6,hr6,_,_,_⟩:=p6.st
        clear hf6 pG gG bG qG fG
        have hpar:StA all 0 q' (paramP E (all.drop nx')) (.mk 8 tA.pos tA.text y 0 0 0 0 []:Nd) nxC eC qC:=by
         refine ⟨fun _=>?_,fun h=>absurd rfl h⟩
         rcases sA.1 rfl with ⟨h0,rfl,w0⟩|⟨h0,w0⟩
         ·rcases sC.1 h0 with ⟨h1,rfl,w1⟩|⟨h1,w1⟩
          ·exact .inl ⟨h1,rfl,by simp only[paramP,w0,w1]⟩
          ·exact .inr ⟨h1,by simp only[paramP,w0,w1]⟩
         ·obtain ⟨rfl,rfl⟩:=sC.2 h0
          exact .inr ⟨h0,by simp only[paramP,w0]⟩
        have hla:(ns++[(.mk 8 tA.pos tA.text y 0 0 0 0 []:Nd)]).length=ns.length+1:=by rw[List.length_append,List.length_cons,List.length_nil]
        by_cases g44:seesT eC (all.drop nxC)=[44]
        ·have he4:eC=0:=by
          by_cases h0:eC=0
          ·exact h0
          ·simp [seesT,h0] at g44
         subst he4
         have hi:isT [[44]] (all.drop nxC)=true:=by rw[←seesT_is (by decide),g44];rfl
         have hnx:nxC<all.length:=drop_ne (isT_ne hi)
         rcases hpar.1 rfl with ⟨_,hq4,hx⟩|⟨h0,_⟩
         ·rw[hx] at hcl
          simp only[if_pos hi,drop_tail] at hcl
          have i2:((nxC:Int)+1)=((nxC+1:Nat):Int):=by omega
          simp(disch:=(try simp only[hN]);omega)only[go_sem,simprocAttr,bne,eq_bs g44,k0,k2,k3,hr6,i2]
          refine ⟨g,Nat.lt_succ_self _,ns++[.mk 8 tA.pos tA.text y 0 0 0 0 []],v6,nxC+1,0,qC,v2+1+1,g6.fr (Fr.upd _ _ _) (.inl hlt),p6.step (ver:=ver6) (ver':=ver6+1) (Fr.upd _ _ _) (by omega) hr6 (by simp(disch:=(try simp only[hN]);omega)only[go_sem,simprocAttr]),?_,?_,by omega,fun b hb1 hb2=>by simp(disch:=(try simp only[hN]);omega)only[go_sem,simprocAttr,f6],by rw[hla];omega,fun _=>⟨hq4,hcl⟩,fun h=>absurd rfl h⟩
          ·simp(disch:=(try simp only[hN]);omega)only[go_sem,simprocAttr,hla,b6]
          ·simp(disch:=(try simp only[hN]);omega)only[go_sem,simprocAttr,q6',zN]
         ·exact absurd rfl h0
        ·simp(disch:=(try simp only[hN]);omega)only[go_sem,simprocAttr,bne,ne_bs g44,k0,k2,k3]
         refine ⟨ns++[.mk 8 tA.pos tA.text y 0 0 0 0 []],v6,nxC,eC,qC,v2+1+1,g6,p6,by rw[hla];exact b6,q6',by omega,f6,by rw[hla];omega,⟨fun _=>?_,fun h=>absurd rfl h⟩⟩
         rcases hpar.1 rfl with ⟨h0,hq4,hx⟩|⟨h0,hx⟩
         ·subst h0
          have hi:¬isT [[44]] (all.drop nxC)=true:=by rw[←seesT_is (by decide)];intro h;exact g44 (eq_of_beq h)
          rw[hx] at hcl
          simp only[if_neg hi] at hcl
          exact .inl ⟨rfl,hq4,hcl.symm⟩
         ·rw[hx] at hcl
          exact .inr ⟨h0,hcl.symm⟩
      ·have i0:((e':Int)==0)=false:=by simp;omega
       simp(disch:=(try simp only[hN]);omega)only[go_sem,simprocAttr,k0,k2,k3,hr,i0]
       exact ⟨ns,v,nx',e',q',v2,hg,hp3,b3,q3',hn3,hf3,by omega,hbad he'⟩
     ·rintro ⟨t',df⟩ h' ⟨ns,v,nx',e',q',v2,hg,hp3,b3,q3',hn3,hf3,hlen,hs,k0,k2,k3,hdf⟩
      simp only at k0 k2 k3 hdf
      subst hdf
      simp(disch:=(try simp only[hN]);omega)only[go_sem,simprocAttr,k0,k2,k3]
      exact ⟨ns,v,nx',e',q',v2,hg,hp3,b3,q3',hn3,hf3,hlen,hs⟩
     ·refine ⟨[],.nilSlice,nx4,e4,q4,3,GK.nil,p5,b5,q5',by omega,f5,?_,fun h0=>⟨h0,rfl,?_⟩,fun h0=>⟨fun h=>absurd h h0,fun _=>⟨rfl,rfl⟩⟩,?_⟩
      ·have:=p5.small
       rw[List.length_nil,List.length_drop];omega
      ·subst h0
       have hi:¬isT [[41]] (all.drop nx4)=true:=by rw[←seesT_is (by decide)];intro h;exact g41 (eq_of_beq h)
       rw[←hR,commaP,if_neg hi]
      ·simp(disch:=(try simp only[hN]);omega)only[go_sem,simprocAttr,k0,k2,k3]
    ·clear k0 k2 k3 k4 b5 q5' p5 f5 hw
     rintro ⟨t,df⟩ X ⟨ns,v,nx',e',q',v2,hg,pX,bX,qX,hnX,fX,hlen,s5,k0,k2,k3,hdf⟩
     simp only at k0 k2 k3 hdf
     subst hdf
     rw[←hR] at s5
     simp(disch:=(try simp only[hN]);omega)only[go_sem,simprocAttr,k0,k2,k3]
     refine eat_tok (by decide) pX ?_
     refine EatQ.all ?_
     intro h6 nx6 e6 q6 hf6 p6 s6
     have hn6:=hf6.n;try simp only[hN] at hn6
     have b6:=(hf6.old (h.n+1) (by omega) (by omega)).trans bX
     have q6':=(hf6.old h.n (by omega) (by omega)).trans qX
     have f6:∀b',b'<h.n→b'≠r→h6.get b'=h.get b':=fun b' hb1 hb2=>by simp(disch:=(try simp only[hN]);omega)only[go_sem,simprocAttr,hf6.old,fX]
     have g6:=hg.fr hf6 (.inl hlt)
     clear hf6
     simp(disch:=(try simp only[hN]);omega)only[go_sem,simprocAttr,k0,k2,k3,b6]
     refine rblock_st (lv:=0) (rblockP_tok ((all.drop nx6).length+1)) hmk (by decide) p6 (fun _=>Nat.lt_succ_self _) ?_
     intro h7 b kv nx7 e7 q7 hf7 p7 w1 w2 s7 hk7
     have hn7:=hf7.n;try simp only[hN] at hn7
     have b7:=(hf7.old (h.n+1) (by omega) (by omega)).trans b6
     have q7':=(hf7.old h.n (by omega) (by omega)).trans q6'
     have gC:GK (e6=0∧e'=0) h.n (h7.alloc (.cells .own 9 (ndC b kv))) v ns:=((g6.weak (g':=e6=0∧e'=0) And.right).fr hf7 (.inl hlt)).fr (Fr.alloc (Fr.refl h7.n h7) _) (.inr (Nat.le_refl _))
     have back:e7=0→e6=0∧e'=0:=by
      intro h0
      have h6:e6=0:=by
       by_cases h:e6=0
       ·exact h
       ·have:=(s7.2 h).1;omega
      refine ⟨h6,?_⟩
      by_cases h:e'=0
      ·exact h
      ·have:=(s6.2 h).1;omega
     obtain ⟨v8,h8,happ,g8,hb8,hn8,ho8⟩:=gC.append (g':=e7=0) (kv:=kv) (n:=b) (m:=h6.n) (by simp only[hN];omega) (by omega) w1 (fun h0=>⟨back h0,(hk7 h0).keep (lo':=h6.n) (Nat.le_refl _) (by simp only[hN];omega) fun b hb1 hb2=>by simp(disch:=(try simp only[hN]);omega)only[go_sem,simprocAttr]⟩) (by omega) (fun b hb=>(g6.blk hb).2.1)
     have hvB:blkV v≠some (h.n+1):=fun e=>by
      obtain ⟨_,_,_,_,hc⟩:=g6.blk e
      rw[b6] at hc;cases hc
     have hvN:blkV v≠some h.n:=fun e=>by
      obtain ⟨_,_,_,_,hc⟩:=g6.blk e
      rw[q6'] at hc;cases hc
     have b8:h8.get (h.n+1)=some ⟨v2,.cells .own 0 [.int .i64 7,.int .i64 (P:Int),.str tk.text,.int .i64 0,.int .i64 (ns.length:Int),.int .i64 0,.int .i64 0,.int .u64 0,v]⟩:=by rw[ho8 (h.n+1) (by simp only[hN];omega) hvB];simp(disch:=(try simp only[hN]);omega)only[go_sem,simprocAttr,b7]
     have q8:h8.get h.n=some ⟨0,.cells .own 0 zN⟩:=by rw[ho8 h.n (by simp only[hN];omega) hvN];simp(disch:=(try simp only[hN]);omega)only[go_sem,simprocAttr,q7']
     have f8:∀b',b'<h.n→b'≠r→h8.get b'=h.get b':=fun b' hb1 hb2=>by
      rw[ho8 b' (by simp only[hN];omega) (fun e=>by have:=(g6.blk e).1;omega)]
      simp(disch:=(try simp only[hN]);omega)only[go_sem,simprocAttr,hf7.old,f6]
     have p8:RInv h8 r E all nx7 e7 q7:=p7.le (by rw[hn8];simp(disch:=(try simp only[hN]);omega)only[go_sem,simprocAttr];omega) fun b hb=>by
      rw[ho8 b (by simp only[hN];omega) (fun e=>by have:=(g6.blk e).1;omega)]
      simp(disch:=(try simp only[hN]);omega)only[go_sem,simprocAttr]
     simp only[AHeap.alloc_n] at hn8
     simp only[ndC] at happ
     have hla:(ns++[b]).length=ns.length+1:=by rw[List.length_append,List.length_cons,List.length_nil]
     have hfin:StA all 0 q (declP E (all.drop nx)) (.mk 7 P tk.text 0 ns.length 0 0 0 (ns++[b]):Nd) nx7 e7 q7:=by
      rw[decl_func k2o ht]
      refine ⟨fun he=>?_,fun he=>absurd rfl he⟩
      rcases st3.1 rfl with ⟨h0,rfl,w0⟩|⟨h0,w0⟩
      ·skip
       rcases s4.1 h0 with ⟨h1,rfl,w1⟩|⟨h1,w1⟩
       ·skip
        rcases s5.1 h1 with ⟨h2,rfl,w2⟩|⟨h2,w2⟩
        ·skip
         rcases s6.1 h2 with ⟨h3,rfl,w3⟩|⟨h3,w3⟩
         ·skip
          rcases s7.1 h3 with ⟨h4,rfl,w4⟩|⟨h4,w4⟩
          ·skip
           exact .inl ⟨h4,rfl,by simp only[drop_tail,paramsP,hP,w0,w1,w2,w3,w4]⟩
          ·skip
           exact .inr ⟨h4,by simp only[drop_tail,paramsP,hP,w0,w1,w2,w3,w4]⟩
         ·skip
          obtain ⟨rfl,rfl⟩:=s7.2 h3
          exact .inr ⟨h3,by simp only[drop_tail,paramsP,hP,w0,w1,w2,w3]⟩
        ·skip
         obtain ⟨rfl,rfl⟩:=s6.2 h2
         obtain ⟨rfl,rfl⟩:=s7.2 h2
         exact .inr ⟨h2,by simp only[drop_tail,paramsP,hP,w0,w1,w2]⟩
       ·skip
        obtain ⟨rfl,rfl⟩:=s5.2 h1
        obtain ⟨rfl,rfl⟩:=s6.2 h1
        obtain ⟨rfl,rfl⟩:=s7.2 h1
        exact .inr ⟨h1,by simp only[drop_tail,paramsP,hP,w0,w1]⟩
      ·skip
       obtain ⟨rfl,rfl⟩:=s4.2 h0
       obtain ⟨rfl,rfl⟩:=s5.2 h0
       obtain ⟨rfl,rfl⟩:=s6.2 h0
       obtain ⟨rfl,rfl⟩:=s7.2 h0
       exact .inr ⟨h0,by simp only[drop_tail,paramsP,hP,w0]⟩
     simp(disch:=(try simp only[hN]);omega)only[go_sem,simprocAttr,k0,k2,k3,w1,w2,happ,b6,b7,b8,q8,g8.flat.1,g8.flat.2,zN]
     refine hQ _ (.mk 7 P tk.text 0 ns.length 0 0 0 (ns++[b])) v8 nx7 e7 q7 ?_ ?_ g8.flat.1 g8.flat.2 hfin fun h0=>?_
     ·exact ⟨by (try simp only[hN]);omega,fun b hb hne=>by (try simp only[hN] at hb hne);simp(disch:=(try simp only[hN]);omega)only[go_sem,simprocAttr,f8]⟩
     ·exact p8.le (by simp only[hN];omega) fun b hb=>by simp(disch:=(try simp only[hN]);omega)only[go_sem,simprocAttr]
     ·refine (g8.kids h0 (by rw[hla];omega)).keep9 (Nat.le_refl _) (by simp only[hN];omega) fun b _ _ _ hb1 hb2 hb3=>?_
      have:b≠h.n:=by rintro rfl;rw[q8] at hb3;cases hb3
      have:b≠h.n+1:=by rintro rfl;rw[b8] at hb3;cases hb3
      simp(disch:=(try simp only[hN]);omega)only[go_sem,simprocAttr]
   simp(disch:=(try simp only[hN]);omega)only[go_sem,simprocAttr,ne_bs g_func,bHT,k0,k2,k3,k4]
   by_cases g_chan:seesT 0 (all.drop nx)=[99,104,97,110]
   ·simp(disch:=(try simp only[hN]);omega)only[go_sem,simprocAttr,eq_bs g_chan,k0,k2,k3,k4]
    obtain ⟨_,hnx,k2',ht⟩:=sees_word (E:=E) hmk rfl (by decide) g_chan
    generalize hHH:AHeap.upd (AHeap.upd HT _ _ _) _ _ _=HU
    have hnHU:HU.n=HT.n:=by rw[←hHH];simp(disch:=(try simp only[hN]);omega)only[go_sem,simprocAttr]
    have bHU:HU.get (h.n+1)=some ⟨4,.cells .own 0 [.int .i64 5,.int .i64 (P:Int),.str tk.text,.int .i64 0,.int .i64 0,.int .i64 0,.int .i64 0,.int .u64 0,.nilSlice]⟩:=by rw[←hHH];simp(disch:=(try simp only[hN]);omega)only[go_sem,simprocAttr,bHT]
    have qHU:HU.get h.n=some ⟨0,.cells .own 0 zN⟩:=by rw[←hHH];simp(disch:=(try simp only[hN]);omega)only[go_sem,simprocAttr,qHT]
    have pHU:RInv HU r E all nx3 e3 q3:=by
     rw[←hHH]
     exact pHT.le (by simp only[hN];omega) fun b hb=>by simp(disch:=(try simp only[hN]);omega)only[go_sem,simprocAttr]
    have fHU:∀b',b'<h.n→b'≠r→HU.get b'=h.get b':=fun b' hb1 hb2=>by rw[←hHH];simp(disch:=(try simp only[hN]);omega)only[go_sem,simprocAttr,fHT]
    clear hHH
    refine eat_tok (by decide) pHU ?_
    refine EatQ.all ?_
    intro h4 nx4 e4 q4 hf4 p4 s4
    have hn4:=hf4.n;try simp only[hN] at hn4
    have b4:=(hf4.old (h.n+1) (by omega) (by omega)).trans bHU
    have q4':=(hf4.old h.n (by omega) (by omega)).trans qHU
    have f4:∀b',b'<h.n→b'≠r→h4.get b'=h.get b':=fun b' hb1 hb2=>by simp(disch:=(try simp only[hN]);omega)only[go_sem,simprocAttr,hf4.old,fHU]
    clear hf4 fHU
    simp(disch:=(try simp only[hN]);omega)only[go_sem,simprocAttr,k0,k2,k3,k4]
    refine token_tok (k:=3) (by decide) p4 ?_
    refine TokQ'.all ?_
    intro h5 nx5 e5 q5 tn hf5 p5 st5
    have hn5:=hf5.n;try simp only[hN] at hn5
    have b5:=(hf5.old (h.n+1) (by omega) (by omega)).trans b4
    have q5':=(hf5.old h.n (by omega) (by omega)).trans q4'
    have f5:∀b',b'<h.n→b'≠r→h5.get b'=h.get b':=fun b' hb1 hb2=>by simp(disch:=(try simp only[hN]);omega)only[go_sem,simprocAttr,hf5.old,f4]
    clear hf5 f4
    simp(disch:=(try simp only[hN]);omega)only[go_sem,simprocAttr,tokAV,k0,k2,k3,k4,b5]
    generalize hHH:AHeap.upd h5 _ _ _=HV
    have hnHV:HV.n=h5.n:=by rw[←hHH];simp(disch:=(try simp only[hN]);omega)only[go_sem,simprocAttr]
    have bHV:HV.get (h.n+1)=some ⟨5,.cells .own 0 [.int .i64 5,.int .i64 (P:Int),.str tk.text,.int .i64 0,.int .i64 (tn.n:Int),.int .i64 0,.int .i64 0,.int .u64 0,.nilSlice]⟩:=by rw[←hHH];simp(disch:=(try simp only[hN]);omega)only[go_sem,simprocAttr]
    have qHV:HV.get h.n=some ⟨0,.cells .own 0 zN⟩:=by rw[←hHH];simp(disch:=(try simp only[hN]);omega)only[go_sem,simprocAttr,q5']
    have pHV:RInv HV r E all nx5 e5 q5:=by
     rw[←hHH]
     exact p5.le (by simp only[hN];omega) fun b hb=>by simp(disch:=(try simp only[hN]);omega)only[go_sem,simprocAttr]
    have fHV:∀b',b'<h.n→b'≠r→HV.get b'=h.get b':=fun b' hb1 hb2=>by rw[←hHH];simp(disch:=(try simp only[hN]);omega)only[go_sem,simprocAttr,f5]
    clear hHH
    refine eat_tok (by decide) pHV ?_
    refine EatQ.all ?_
    intro h6 nx6 e6 q6 hf6 p6 s6
    have hn6:=hf6.n;try simp only[hN] at hn6
    have b6:=(hf6.old (h.n+1) (by omega) (by omega)).trans bHV
    have q6':=(hf6.old h.n (by omega) (by omega)).trans qHV
    have f6:∀b',b'<h.n→b'≠r→h6.get b'=h.get b':=fun b' hb1 hb2=>by simp(disch:=(try simp only[hN]);omega)only[go_sem,simprocAttr,hf6.old,fHV]
    clear hf6 fHV
    simp(disch:=(try simp only[hN]);omega)only[go_sem,simprocAttr,k0,k2,k3,k4,ne_bs (show ¬seesT 0 (all.drop nx)=[118,97,114] by rw[g_chan];decide),b6]
    refine rtyp_tok hmk p6 ?_
    intro h7 nx7 e7 q7 y hf7 p7 st7
    have hn7:=hf7.n;try simp only[hN] at hn7
    have b7:=(hf7.old (h.n+1) (by omega) (by omega)).trans b6
    have q7':=(hf7.old h.n (by omega) (by omega)).trans q6'
    have f7:∀b',b'<h.n→b'≠r→h7.get b'=h.get b':=fun b' hb1 hb2=>by simp(disch:=(try simp only[hN]);omega)only[go_sem,simprocAttr,hf7.old,f6]
    clear hf7 f6
    simp(disch:=(try simp only[hN]);omega)only[go_sem,simprocAttr,k0,k2,k3,k4,b7]
    refine ⟨_,.mk 5 P tk.text y tn.n 0 0 0 [],nx7,e7,q7,_,decl_chan k2' ht,?_,rfl,rfl,q7',by omega,p7.le (by simp only[hN];omega) fun b hb=>by simp(disch:=(try simp only[hN]);omega)only[go_sem,simprocAttr],fun b' hb1 hb2=>by simp(disch:=(try simp only[hN]);omega)only[go_sem,simprocAttr,f7]⟩
    refine ⟨fun he=>?_,fun he=>absurd rfl he⟩
    rcases st3.1 rfl with ⟨h0,rfl,w0⟩|⟨h0,w0⟩
    ·skip
     rcases s4.1 h0 with ⟨h1,rfl,w1⟩|⟨h1,w1⟩
     ·skip
      rcases st5.1 h1 with ⟨h2,rfl,w2⟩|⟨h2,w2⟩
      ·skip
       rcases s6.1 h2 with ⟨h3,rfl,w3⟩|⟨h3,w3⟩
       ·skip
        rcases st7.1 h3 with ⟨h4,rfl,w4⟩|⟨h4,w4⟩
        ·skip
         exact .inl ⟨h4,rfl,by simp only[drop_tail,sizedP,hP,w0,w1,w2,w3,w4]⟩
        ·skip
         exact .inr ⟨h4,by simp only[drop_tail,sizedP,hP,w0,w1,w2,w3,w4]⟩
       ·skip
        obtain ⟨rfl,rfl⟩:=st7.2 h3
        exact .inr ⟨h3,by simp only[drop_tail,sizedP,hP,w0,w1,w2,w3]⟩
      ·skip
       obtain ⟨rfl,rfl⟩:=s6.2 h2
       obtain ⟨rfl,rfl⟩:=st7.2 h2
       exact .inr ⟨h2,by simp only[drop_tail,sizedP,hP,w0,w1,w2]⟩
     ·skip
      obtain ⟨rfl,rfl⟩:=st5.2 h1
      obtain ⟨rfl,rfl⟩:=s6.2 h1
      obtain ⟨rfl,rfl⟩:=st7.2 h1
      exact .inr ⟨h1,by simp only[drop_tail,sizedP,hP,w0,w1]⟩
    ·skip
     obtain ⟨rfl,rfl⟩:=s4.2 h0
     obtain ⟨rfl,rfl⟩:=st5.2 h0
     obtain ⟨rfl,rfl⟩:=s6.2 h0
     obtain ⟨rfl,rfl⟩:=st7.2 h0
     exact .inr ⟨h0,by simp only[drop_tail,sizedP,hP,w0]⟩
   have g_var:seesT 0 (all.drop nx)=[118,97,114]:=by
    rcases hw with g|g|g|g|g
    ·exact g
    ·exact absurd g g_mutex
    ·exact absurd g g_chan
    ·exact absurd g g_atomic
    ·exact absurd g g_func
   obtain ⟨_,hnx,k2',ht⟩:=sees_word (E:=E) hmk rfl (by decide) g_var
   simp(disch:=(try simp only[hN]);omega)only[go_sem,simprocAttr,ne_bs g_chan,k0,k2,k3,k4]
   generalize hHH:AHeap.upd HT _ _ _=HU0
   have hnHU0:HU0.n=HT.n:=by rw[←hHH];simp(disch:=(try simp only[hN]);omega)only[go_sem,simprocAttr]
   have bHU0:HU0.get (h.n+1)=some ⟨3,.cells .own 0 [.int .i64 2,.int .i64 (P:Int),.str tk.text,.int .i64 0,.int .i64 0,.int .i64 0,.int .i64 0,.int .u64 0,.nilSlice]⟩:=by rw[←hHH];simp(disch:=(try simp only[hN]);omega)only[go_sem,simprocAttr,bHT]
   have qHU0:HU0.get h.n=some ⟨0,.cells .own 0 zN⟩:=by rw[←hHH];simp(disch:=(try simp only[hN]);omega)only[go_sem,simprocAttr,qHT]
   have pHU0:RInv HU0 r E all nx3 e3 q3:=by
    rw[←hHH]
    exact pHT.le (by simp only[hN];omega) fun b hb=>by simp(disch:=(try simp only[hN]);omega)only[go_sem,simprocAttr]
   have fHU0:∀b',b'<h.n→b'≠r→HU0.get b'=h.get b':=fun b' hb1 hb2=>by rw[←hHH];simp(disch:=(try simp only[hN]);omega)only[go_sem,simprocAttr,fHT]
   clear hHH
   refine sees_tok pHU0 ?_
   intro HU hfU
   have hnU:=hfU.n;try simp only[hN] at hnU
   have bHU:=(hfU.all (b:=h.n+1) (by omega)).trans bHU0
   have qHU:=(hfU.all (b:=h.n) (by omega)).trans qHU0
   have pHU:=pHU0.fr hfU
   have fHU:∀b',b'<h.n→b'≠r→HU.get b'=h.get b':=fun b' hb1 hb2=>by simp(disch:=(try simp only[hN]);omega)only[go_sem,simprocAttr,hfU.old,fHU0]
   clear hfU bHU0 qHU0 pHU0 fHU0
   by_cases g91:seesT e3 (all.drop nx3)=[91]
   ·have he3:e3=0:=by
     by_cases h0:e3=0
     ·exact h0
     ·simp [seesT,h0] at g91
    subst he3
    have hi91:isT [[91]] (all.drop nx3)=true:=by rw[←seesT_is (by decide),g91];rfl
    simp(disch:=(try simp only[hN]);omega)only[go_sem,simprocAttr,eq_bs g91,k0,k2,k3,k4]
    refine eat_tok (by decide) pHU ?_
    refine EatQ.all ?_
    intro h4 nx4 e4 q4 hf4 p4 s4
    have hn4:=hf4.n;try simp only[hN] at hn4
    have b4:=(hf4.old (h.n+1) (by omega) (by omega)).trans bHU
    have q4':=(hf4.old h.n (by omega) (by omega)).trans qHU
    have f4:∀b',b'<h.n→b'≠r→h4.get b'=h.get b':=fun b' hb1 hb2=>by simp(disch:=(try simp only[hN]);omega)only[go_sem,simprocAttr,hf4.old,fHU]
    clear hf4 fHU
    simp(disch:=(try simp only[hN]);omega)only[go_sem,simprocAttr,k0,k2,k3,k4]
    refine token_tok (k:=3) (by decide) p4 ?_
    refine TokQ'.all ?_
    intro h5 nx5 e5 q5 tn hf5 p5 st5
    have hn5:=hf5.n;try simp only[hN] at hn5
    have b5:=(hf5.old (h.n+1) (by omega) (by omega)).trans b4
    have q5':=(hf5.old h.n (by omega) (by omega)).trans q4'
    have f5:∀b',b'<h.n→b'≠r→h5.get b'=h.get b':=fun b' hb1 hb2=>by simp(disch:=(try simp only[hN]);omega)only[go_sem,simprocAttr,hf5.old,f4]
    clear hf5 f4
    simp(disch:=(try simp only[hN]);omega)only[go_sem,simprocAttr,tokAV,k0,k2,k3,k4,b5]
    generalize hHH:AHeap.upd h5 _ _ _=HV
    have hnHV:HV.n=h5.n:=by rw[←hHH];simp(disch:=(try simp only[hN]);omega)only[go_sem,simprocAttr]
    have bHV:HV.get (h.n+1)=some ⟨4,.cells .own 0 [.int .i64 2,.int .i64 (P:Int),.str tk.text,.int .i64 0,.int .i64 (tn.n:Int),.int .i64 0,.int .i64 0,.int .u64 0,.nilSlice]⟩:=by rw[←hHH];simp(disch:=(try simp only[hN]);omega)only[go_sem,simprocAttr]
    have qHV:HV.get h.n=some ⟨0,.cells .own 0 zN⟩:=by rw[←hHH];simp(disch:=(try simp only[hN]);omega)only[go_sem,simprocAttr,q5']
    have pHV:RInv HV r E all nx5 e5 q5:=by
     rw[←hHH]
     exact p5.le (by simp only[hN];omega) fun b hb=>by simp(disch:=(try simp only[hN]);omega)only[go_sem,simprocAttr]
    have fHV:∀b',b'<h.n→b'≠r→HV.get b'=h.get b':=fun b' hb1 hb2=>by rw[←hHH];simp(disch:=(try simp only[hN]);omega)only[go_sem,simprocAttr,f5]
    clear hHH
    refine eat_tok (by decide) pHV ?_
    refine EatQ.all ?_
    intro h6 nx6 e6 q6 hf6 p6 s6
    have hn6:=hf6.n;try simp only[hN] at hn6
    have b6:=(hf6.old (h.n+1) (by omega) (by omega)).trans bHV
    have q6':=(hf6.old h.n (by omega) (by omega)).trans qHV
    have f6:∀b',b'<h.n→b'≠r→h6.get b'=h.get b':=fun b' hb1 hb2=>by simp(disch:=(try simp only[hN]);omega)only[go_sem,simprocAttr,hf6.old,fHV]
    clear hf6 fHV
    simp(disch:=(try simp only[hN]);omega)only[go_sem,simprocAttr,k0,k2,k3,k4,eq_bs g_var,b6]
    generalize hHH:AHeap.upd h6 _ _ _=HW
    have hnHW:HW.n=h6.n:=by rw[←hHH];simp(disch:=(try simp only[hN]);omega)only[go_sem,simprocAttr]
    have bHW:HW.get (h.n+1)=some ⟨5,.cells .own 0 [.int .i64 3,.int .i64 (P:Int),.str tk.text,.int .i64 0,.int .i64 (tn.n:Int),.int .i64 0,.int .i64 0,.int .u64 0,.nilSlice]⟩:=by rw[←hHH];simp(disch:=(try simp only[hN]);omega)only[go_sem,simprocAttr]
    have qHW:HW.get h.n=some ⟨0,.cells .own 0 zN⟩:=by rw[←hHH];simp(disch:=(try simp only[hN]);omega)only[go_sem,simprocAttr,q6']
    have pHW:RInv HW r E all nx6 e6 q6:=by
     rw[←hHH]
     exact p6.le (by simp only[hN];omega) fun b hb=>by simp(disch:=(try simp only[hN]);omega)only[go_sem,simprocAttr]
    have fHW:∀b',b'<h.n→b'≠r→HW.get b'=h.get b':=fun b' hb1 hb2=>by rw[←hHH];simp(disch:=(try simp only[hN]);omega)only[go_sem,simprocAttr,f6]
    clear hHH
    refine rtyp_tok hmk pHW ?_
    intro h7 nx7 e7 q7 y hf7 p7 st7
    have hn7:=hf7.n;try simp only[hN] at hn7
    have b7:=(hf7.old (h.n+1) (by omega) (by omega)).trans bHW
    have q7':=(hf7.old h.n (by omega) (by omega)).trans qHW
    have f7:∀b',b'<h.n→b'≠r→h7.get b'=h.get b':=fun b' hb1 hb2=>by simp(disch:=(try simp only[hN]);omega)only[go_sem,simprocAttr,hf7.old,fHW]
    clear hf7 fHW
    simp(disch:=(try simp only[hN]);omega)only[go_sem,simprocAttr,k0,k2,k3,k4,b7]
    refine ⟨_,.mk 3 P tk.text y tn.n 0 0 0 [],nx7,e7,q7,_,decl_var k2' ht,?_,rfl,rfl,q7',by omega,p7.le (by simp only[hN];omega) fun b hb=>by simp(disch:=(try simp only[hN]);omega)only[go_sem,simprocAttr],fun b' hb1 hb2=>by simp(disch:=(try simp only[hN]);omega)only[go_sem,simprocAttr,f7]⟩
    refine ⟨fun he=>?_,fun he=>absurd rfl he⟩
    rcases st3.1 rfl with ⟨h0,rfl,w0⟩|⟨h0,w0⟩
    ·skip
     rcases s4.1 h0 with ⟨h1,rfl,w1⟩|⟨h1,w1⟩
     ·skip
      rcases st5.1 h1 with ⟨h2,rfl,w2⟩|⟨h2,w2⟩
      ·skip
       rcases s6.1 h2 with ⟨h3,rfl,w3⟩|⟨h3,w3⟩
       ·skip
        rcases st7.1 h3 with ⟨h4,rfl,w4⟩|⟨h4,w4⟩
        ·skip
         exact .inl ⟨h4,rfl,by simp only[drop_tail,sizedP,hP,hi91,if_true,w0,w1,w2,w3,w4]⟩
        ·skip
         exact .inr ⟨h4,by simp only[drop_tail,sizedP,hP,hi91,if_true,w0,w1,w2,w3,w4]⟩
       ·skip
        obtain ⟨rfl,rfl⟩:=st7.2 h3
        exact .inr ⟨h3,by simp only[drop_tail,sizedP,hP,hi91,if_true,w0,w1,w2,w3]⟩
      ·skip
       obtain ⟨rfl,rfl⟩:=s6.2 h2
       obtain ⟨rfl,rfl⟩:=st7.2 h2
       exact .inr ⟨h2,by simp only[drop_tail,sizedP,hP,hi91,if_true,w0,w1,w2]⟩
     ·skip
      obtain ⟨rfl,rfl⟩:=st5.2 h1
      obtain ⟨rfl,rfl⟩:=s6.2 h1
      obtain ⟨rfl,rfl⟩:=st7.2 h1
      exact .inr ⟨h1,by simp only[drop_tail,sizedP,hP,hi91,if_true,w0,w1]⟩
    ·skip
     obtain ⟨rfl,rfl⟩:=s4.2 h0
     obtain ⟨rfl,rfl⟩:=st5.2 h0
     obtain ⟨rfl,rfl⟩:=s6.2 h0
     obtain ⟨rfl,rfl⟩:=st7.2 h0
     exact .inr ⟨h0,by simp only[drop_tail,sizedP,hP,hi91,if_true,w0]⟩
   ·have hi91:e3=0→¬isT [[91]] (all.drop nx3)=true:=by rintro rfl;rw[←seesT_is (by decide)];intro h;exact g91 (eq_of_beq h)
    simp(disch:=(try simp only[hN]);omega)only[go_sem,simprocAttr,ne_bs g91,k0,k2,k3,k4]
    refine rtyp_tok hmk pHU ?_
    intro h7 nx7 e7 q7 y hf7 p7 st7
    have hn7:=hf7.n;try simp only[hN] at hn7
    have b7:=(hf7.old (h.n+1) (by omega) (by omega)).trans bHU
    have q7':=(hf7.old h.n (by omega) (by omega)).trans qHU
    have f7:∀b',b'<h.n→b'≠r→h7.get b'=h.get b':=fun b' hb1 hb2=>by simp(disch:=(try simp only[hN]);omega)only[go_sem,simprocAttr,hf7.old,fHU]
    clear hf7 fHU
    simp(disch:=(try simp only[hN]);omega)only[go_sem,simprocAttr,k0,k2,k3,k4,b7]
    refine ⟨_,.mk 2 P tk.text y 0 0 0 0 [],nx7,e7,q7,_,decl_var k2' ht,?_,rfl,rfl,q7',by omega,p7.le (by simp only[hN];omega) fun b hb=>by simp(disch:=(try simp only[hN]);omega)only[go_sem,simprocAttr],fun b' hb1 hb2=>by simp(disch:=(try simp only[hN]);omega)only[go_sem,simprocAttr,f7]⟩
    refine ⟨fun he=>?_,fun he=>absurd rfl he⟩
    rcases st3.1 rfl with ⟨h0,rfl,w0⟩|⟨h0,w0⟩
    ·skip
     rcases st7.1 h0 with ⟨h1,rfl,w1⟩|⟨h1,w1⟩
     ·skip
      exact .inl ⟨h1,rfl,by simp only[drop_tail,hP,w0,if_neg (hi91 h0),w1]⟩
     ·skip
      exact .inr ⟨h1,by simp only[drop_tail,hP,w0,if_neg (hi91 h0),w1]⟩
    ·skip
     obtain ⟨rfl,rfl⟩:=st7.2 h0
     exact .inr ⟨h0,by simp only[drop_tail,hP,w0]⟩
  ·rintro ⟨t,df⟩ X ⟨D0,n,nx',e',q',v2,hD,st,hkids,bX,qX,hnX,pX,hfX,k0,k2,k3,hdf⟩
   simp only at k0 k2 k3 hdf
   subst hdf
   simp(disch:=(try simp only[hN]);omega)only[go_sem,simprocAttr,k0,k2,k3]
   refine eat_tok (by decide) pX ?_
   refine EatQ.all ?_
   intro Y nxY eY qY hfY pY s2
   have hnY:=hfY.n;try simp only[hN] at hnY
   have bY:=(hfY.old (h.n+1) (by omega) (by omega)).trans bX
   have qY0:=(hfY.old h.n (by omega) (by omega)).trans qX
   have hltY:=pY.hi
   have s1:StA all 0 q (declP E (all.drop nx)) n nxY eY qY:=by
    rw[hD]
    refine ⟨fun he=>?_,fun he=>absurd rfl he⟩
    rcases st.1 rfl with ⟨h1,rfl,r1⟩|⟨h1,r1⟩
    ·rcases s2.1 h1 with ⟨h2,rfl,r2⟩|⟨h2,r2⟩
     ·exact .inl ⟨h2,rfl,by simp only[semiP,r1,r2]⟩
     ·exact .inr ⟨h2,by simp only[semiP,r1,r2]⟩
    ·obtain ⟨rfl,rfl⟩:=s2.2 h1
     exact .inr ⟨h1,by simp only[semiP,r1]⟩
   simp(disch:=(try simp only[hN]);omega)only[go_sem,simprocAttr,k0,k2,k3,bY,qY0,ndC,zN]
   refine hQ _ n .nilSlice nxY eY qY ?_ ?_ rfl rfl s1 fun h0=>?_
   ·exact ⟨by (try simp only[hN]);omega,fun b hb hne=>by (try simp only[hN] at hb hne);simp(disch:=(try simp only[hN]);omega)only[go_sem,simprocAttr,hfY.old,hfX]⟩
   ·exact pY.le (by simp only[hN];omega) fun b hb=>by simp(disch:=(try simp only[hN]);omega)only[go_sem,simprocAttr]
   ·rw[hkids];exact .nil
theorem rprog_tok {h:AHeap} {r E nx q:Nat} {all:List Tok} {Q:QR} (hmk:MkOk all) (hp:RInv h r E all nx 0 q) (hQ:∀h' n kv nx' e' q',Fr r h h'→RInv h' r E all nx' e' q'→kv.flat=true→kv.cells=[kv]→StA all 0 q (progP E ((all.drop nx).length+1) 0 (all.drop nx)) n nx' e' q'→(e'=0→KidsR h.n h' n.kids kv)→Q (.ret (.agg (ndC n kv))) h'):WF F 16 [.ptr r 0] h Q:=by
 refine WF.code F16 rfl ?_
 have hlt:=hp.hi
 have hsm:=hp.small
 simp(disch:=(try simp only[hN]);omega)only[go_sem,simprocAttr]
 refine place_tok (hp.fr ⟨by (try simp only[hN]);omega,fun b hb hne=>by (try simp only[hN] at hb hne);simp(disch:=(try simp only[hN]);omega)only[go_sem,simprocAttr]⟩) ?_
 simp(disch:=(try simp only[hN]);omega)only[go_sem,simprocAttr,zN]
 have hR:∃R,upToL (declP E) List.isEmpty ((all.drop nx).length+1) [] (all.drop nx)=R:=⟨_,rfl⟩
 obtain ⟨R,hR⟩:=hR
 have hz:R≠.error (0,0):=by
  rw[←hR]
  exact (upToL_fine (m:=(all.drop nx).length+1) (fun ts _=>declP_fine ts) ((all.drop nx).length+1) [] (all.drop nx) (Nat.lt_succ_self _) (Nat.lt_succ_self _)).ne
 have hS:∀ns nx' e' q',StA all 0 q R ns nx' e' q'→StA all 0 q (progP E ((all.drop nx).length+1) 0 (all.drop nx)) (nd0 1 (hdT E (all.drop nx)).pos [] ns) nx' e' q':=by
  intro ns nx' e' q' s
  refine ⟨fun _=>?_,fun h=>absurd rfl h⟩
  rcases s.1 rfl with ⟨h1,h2,h3⟩|⟨h1,h3⟩
  ·exact .inl ⟨h1,h2,by simp only[progP,hR,h3]⟩
  ·exact .inr ⟨h1,by simp only[progP,hR,h3]⟩
 generalize (hdT E (all.drop nx)).pos=P at *
 generalize hH:AHeap.upd (AHeap.alloc _ _) _ _ _=H
 have hHn:H.n=h.n+2:=by rw[←hH];simp(disch:=(try simp only[hN]);omega)only[go_sem,simprocAttr]
 have b0:H.get (h.n+1)=some ⟨1,.cells .own 0 (ndC (nd0 1 P [] []) .nilSlice)⟩:=by rw[←hH];simp(disch:=(try simp only[hN]);omega)only[go_sem,simprocAttr,ndC,nd0,Nd.kind,Nd.pos,Nd.name,Nd.typ,Nd.n,Nd.size,Nd.obj,Nd.bits]
 have q0:H.get h.n=some ⟨0,.cells .own 0 zN⟩:=by rw[←hH];simp(disch:=(try simp only[hN]);omega)only[go_sem,simprocAttr,zN]
 have hpH:RInv H r E all nx 0 q:=by rw[←hH];exact hp.le (by simp only[hN];omega) fun b hb=>by simp(disch:=(try simp only[hN]);omega)only[go_sem,simprocAttr]
 have hfH:∀b',b'<h.n→b'≠r→H.get b'=h.get b':=fun b' hb1 hb2=>by rw[←hH];simp(disch:=(try simp only[hN]);omega)only[go_sem,simprocAttr]
 clear hH hp
 refine wp_loopx 0 (fun g a h'=>∃ns v nx' e' q' v2,GK (e'=0) h.n h' v ns∧RInv h' r E all nx' e' q'∧h'.get (h.n+1)=some ⟨v2,.cells .own 0 (ndC (nd0 1 P [] []) v)⟩∧h'.get h.n=some ⟨0,.cells .own 0 zN⟩∧h.n+1<h'.n∧(∀b',b'<h.n→b'≠r→h'.get b'=h.get b')∧ns.length+g≤2001∧(e'=0→q'=q∧upToL (declP E) List.isEmpty g ns (all.drop nx')=R)∧(e'≠0→StA all 0 q R ns nx' e' q')∧a.tm.get 0=some (.ptr r 0)∧a.tm.get 2=some (.ptr h.n 0)∧a.tm.get 3=some (.ptr (h.n+1) 0)∧a.df=[])
  (fun a h'=>∃ns v nx' e' q' v2,GK (e'=0) h.n h' v ns∧RInv h' r E all nx' e' q'∧h'.get (h.n+1)=some ⟨v2,.cells .own 0 (ndC (nd0 1 P [] []) v)⟩∧h'.get h.n=some ⟨0,.cells .own 0 zN⟩∧h.n+1<h'.n∧(∀b',b'<h.n→b'≠r→h'.get b'=h.get b')∧ns.length≤2001∧StA all 0 q R ns nx' e' q'∧a.tm.get 0=some (.ptr r 0)∧a.tm.get 2=some (.ptr h.n 0)∧a.tm.get 3=some (.ptr (h.n+1) 0)∧a.df=[]) ?_ ?_ ((all.drop nx).length+1) ?_
 ·rintro g ⟨t,df⟩ h3 ⟨ns,v,nx',e',q',v2,hg,hp3,b3,q3,hn3,hf3,hlen,hgood,hbad,k0,k2,k3,hdf⟩
  simp only at k0 k2 k3 hdf
  subst hdf
  have hlt3:=hp3.hi
  obtain ⟨ver,vv,hr,hvl,hvf,_⟩:=hp3.st
  by_cases he':e'=0
  ·obtain ⟨hq,hcl⟩:=hgood he'
   subst he' hq
   cases g with
   | zero=>exact absurd hcl.symm hz
   | succ g=>
    rw[upToL] at hcl
    have i0:(((0:Nat):Int)==0)=true:=rfl
    by_cases hnx:nx'<all.length
    ·have hie:(all.drop nx').isEmpty=false:=by rw[List.drop_eq_getElem_cons hnx];rfl
     rw[hie,if_neg (by decide)] at hcl
     have g1:decide ((nx':Int)<(all.length:Int))=true:=decide_eq_true (by omega)
     have b3l:h3.get (h.n+1)=some ⟨v2,.cells .own 0 [.int .i64 1,.int .i64 (P:Int),.str [],.int .i64 0,.int .i64 0,.int .i64 0,.int .i64 0,.int .u64 0,v]⟩:=b3
     simp(disch:=(try simp only[hN]);omega)only[go_sem,simprocAttr,k0,k2,k3,hr,hvl,i0,g1,Int.natCast_zero,b3l]
     refine rdecl_tok hmk hp3 ?_
     intro h5 n kv nx5 e5 q5 hf5 hp5 f1 f2 st5 hk5
     have hn5:=hf5.n;try simp only[hN] at hn5
     have b5l:=(hf5.old (h.n+1) (by omega) (by omega)).trans b3l
     have q5':=(hf5.old h.n (by omega) (by omega)).trans q3
     have hg5:GK (0=0) h.n (h5.alloc (.cells .own 9 (ndC n kv))) v ns:=(hg.fr hf5 (.inl hlt)).fr (Fr.alloc (Fr.refl h5.n h5) _) (.inr (Nat.le_refl _))
     obtain ⟨v6,h6,happ,hg6,hb6,hn6,ho6⟩:=hg5.append (g':=e5=0) (kv:=kv) (n:=n) (m:=h3.n) (by simp only[hN];omega) (by omega) f1 (fun h0=>⟨rfl,(hk5 h0).keep (lo':=h3.n) (Nat.le_refl _) (by simp only[hN];omega) fun b hb1 hb2=>by simp(disch:=(try simp only[hN]);omega)only[go_sem,simprocAttr]⟩) (by omega) (fun b hb=>(hg.blk hb).2.1)
     have hvB:blkV v≠some (h.n+1):=fun e=>by
      obtain ⟨_,_,_,_,hc⟩:=hg.blk e
      rw[b3] at hc;cases hc
     have hvN:blkV v≠some h.n:=fun e=>by
      obtain ⟨_,_,_,_,hc⟩:=hg.blk e
      rw[q3] at hc;cases hc
     have b6:h6.get (h.n+1)=some ⟨v2,.cells .own 0 [.int .i64 1,.int .i64 (P:Int),.str [],.int .i64 0,.int .i64 0,.int .i64 0,.int .i64 0,.int .u64 0,v]⟩:=by rw[ho6 (h.n+1) (by simp only[hN];omega) hvB];simp(disch:=(try simp only[hN]);omega)only[go_sem,simprocAttr,b5l]
     have q6:h6.get h.n=some ⟨0,.cells .own 0 zN⟩:=by rw[ho6 h.n (by simp only[hN];omega) hvN];simp(disch:=(try simp only[hN]);omega)only[go_sem,simprocAttr,q5']
     have hf6:∀b',b'<h.n→b'≠r→h6.get b'=h.get b':=fun b' hb1 hb2=>by
      rw[ho6 b' (by simp only[hN];omega) (fun e=>by have:=(hg.blk e).1;omega)]
      simp(disch:=(try simp only[hN]);omega)only[go_sem,simprocAttr,hf5.old,hf3]
     have hp6:RInv h6 r E all nx5 e5 _:=hp5.le (by rw[hn6];simp(disch:=(try simp only[hN]);omega)only[go_sem,simprocAttr];omega) fun b hb=>by
      rw[ho6 b (by simp only[hN];omega) (fun e=>by have:=(hg.blk e).1;omega)]
      simp(disch:=(try simp only[hN]);omega)only[go_sem,simprocAttr]
     simp only[AHeap.alloc_n] at hn6
     simp only[ndC] at happ
     simp(disch:=(try simp only[hN]);omega)only[go_sem,simprocAttr,k0,k2,k3,f1,f2,happ,b5l,b3l,b6,hg6.flat.1,hg6.flat.2]
     refine ⟨g,Nat.lt_succ_self _,ns++[n],v6,nx5,e5,_,v2+1,hg6.keep id (by simp only[hN];omega) (fun b _ _ hb1 hb2 hb3=>?_) (fun _ b _ _ _ hb1 hb2 hb3=>?_),hp6.le (by simp only[hN];omega) (fun b hb=>by simp(disch:=(try simp only[hN]);omega)only[go_sem,simprocAttr]),rfl,q6,by omega,fun b hb1 hb2=>by simp(disch:=(try simp only[hN]);omega)only[go_sem,simprocAttr,hf6],by rw[List.length_append,List.length_cons,List.length_nil];omega,?_,?_⟩
     ·have:b≠h.n+1:=by rintro rfl;rw[b6] at hb3;cases hb3
      simp(disch:=(try simp only[hN]);omega)only[go_sem,simprocAttr]
     ·have:b≠h.n+1:=by rintro rfl;rw[b6] at hb3;cases hb3
      simp(disch:=(try simp only[hN]);omega)only[go_sem,simprocAttr]
     ·intro h0
      rcases st5.1 rfl with ⟨_,hq5,hx⟩|⟨h1,_⟩
      ·rw[hx] at hcl
       exact ⟨hq5,hcl⟩
      ·exact absurd h0 h1
     ·intro h0
      refine ⟨fun _=>.inr ?_,fun h=>absurd rfl h⟩
      rcases st5.1 rfl with ⟨h1,_,_⟩|⟨h1,hx⟩
      ·exact absurd h1 h0
      ·rw[hx] at hcl
       exact ⟨h1,hcl.symm⟩
    ·have hd:all.drop nx'=[]:=List.drop_of_length_le (by omega)
     rw[hd] at hcl
     simp only[List.isEmpty_nil,if_true] at hcl
     have g1:decide ((nx':Int)<(all.length:Int))=false:=decide_eq_false (by omega)
     simp(disch:=(try simp only[hN]);omega)only[go_sem,simprocAttr,k0,k2,k3,hr,hvl,i0,g1,Int.natCast_zero]
     exact ⟨ns,v,nx',0,_,v2,hg,hp3,b3,q3,by omega,hf3,by omega,⟨fun _=>.inl ⟨rfl,rfl,by rw[←hcl,hd]⟩,fun h=>absurd rfl h⟩⟩
  ·have i0:((e':Int)==0)=false:=by simp;omega
   simp(disch:=(try simp only[hN]);omega)only[go_sem,simprocAttr,k0,k2,k3,hr,i0]
   exact ⟨ns,v,nx',e',q',v2,hg,hp3,b3,q3,hn3,hf3,by omega,hbad he'⟩
 ·rintro ⟨t,df⟩ h3 ⟨ns,v,nx',e',q',v2,hg,hp3,b3,q3,hn3,hf3,hlen,s2,k0,k2,k3,hdf⟩
  simp only at k0 k2 k3 hdf
  subst hdf
  have b3l:h3.get (h.n+1)=some ⟨v2,.cells .own 0 [.int .i64 1,.int .i64 (P:Int),.str [],.int .i64 0,.int .i64 0,.int .i64 0,.int .i64 0,.int .u64 0,v]⟩:=b3
  simp(disch:=(try simp only[hN]);omega)only[go_sem,simprocAttr,k0,k2,k3,b3l,q3,hg.flat.1,hg.flat.2,zN]
  refine hQ _ (nd0 1 P [] ns) v nx' e' q' ?_ ?_ hg.flat.1 hg.flat.2 (hS _ _ _ _ s2) fun h0=>?_
  ·exact ⟨by (try simp only[hN]);omega,fun b hb hne=>by (try simp only[hN] at hb hne);simp(disch:=(try simp only[hN]);omega)only[go_sem,simprocAttr,hf3]⟩
  ·exact hp3.le (by simp only[hN];omega) fun b hb=>by simp(disch:=(try simp only[hN]);omega)only[go_sem,simprocAttr]
  ·refine (hg.kids h0 (by omega)).keep9 (Nat.le_refl _) (by simp only[hN];omega) fun b _ _ _ hb1 hb2 hb3=>?_
   have:b≠h.n:=by rintro rfl;rw[q3] at hb3;cases hb3
   simp(disch:=(try simp only[hN]);omega)only[go_sem,simprocAttr]
 ·refine ⟨[],.nilSlice,nx,0,q,1,GK.nil,hpH,b0,q0,by omega,hfH,?_,fun _=>⟨rfl,hR⟩,fun h0=>absurd rfl h0,?_⟩
  ·rw[List.length_nil,List.length_drop];omega
  ·simp(disch:=(try simp only[hN]);omega)only[go_sem,simprocAttr]
def PSpecB (m fid E:Nat) (u:PT):Prop:=∀{h:AHeap} {r lv:Nat} {ts:List Tok} {Q:QR},PInv h r E ts lv→ts.length≤2000→ts.length<m→PQ h r E lv Q (u lv ts)→WF F fid [.ptr r 0] h Q
theorem one_app {lo b ver:Nat} {h:AHeap} {x n:Nd} {xv kv:AV} (hb:h.get b=some ⟨ver,.cells .own 9 (ndC x xv)⟩) (hbn:b<h.n) (hlo:lo≤h.n) (hx:KidsR lo h x.kids xv) (hk:KidsR lo h n.kids kv) :
  ∃v' h',appendA h 9 96 (.slice b 0 1 1 true) 1 (ndC n kv)=some (v',h')∧GKids lo h' v' [x,n]∧blkV v'=some h.n∧h'.n=h.n+1∧∀b,b<h.n→h'.get b=h.get b:=by
 refine ⟨.slice h.n 0 2 2 false,h.alloc (.cells .own 9 (ndC x xv++ndC n kv)),?_,⟨ndC x xv++ndC n kv,⟨rfl,.inr ⟨Nat.succ_pos _,h.n,0,rfl,hlo,by rw[AHeap.alloc_n];omega,by rw[AHeap.get_alloc,if_pos rfl]⟩⟩,?_⟩,rfl,rfl,fun b hb=>by rw[AHeap.get_alloc,if_neg (by omega)]⟩
 ·have hrow:row (ndC x xv) 0 9=some (ndC x xv):=rfl
  have hfl:allFlat (ndC n kv)=true:=by simp only[ndC,allFlat,List.all_cons,List.all_nil,hk.flat.1];rfl
  have r1:Nat.ble 2 room=true:=by simp only[room];decide
  have r2:Nat.ble (2*96) room=true:=by simp only[room];decide
  have l9:(ndC n kv).length=9:=rfl
  simp only[appendA,hb,hfl,l9,hrow,r1,r2]
  rfl
 ·have f:∀b,lo≤b∧b<h.n→(h.alloc (.cells .own 9 (ndC x xv++ndC n kv))).get b=h.get b:=fun b hb=>by rw[AHeap.get_alloc,if_neg (by omega)]
  have:=RowsS.cons (n:=x) (kv:=xv) (S:=fun y=>lo≤y∧blkV (.slice h.n 0 2 2 false)≠some y) (KidsS.keep9 (fun b hb hl=>⟨hb,by simp [blkV];omega⟩) (Nat.le_succ _) (fun b _ _ _ hb hl _=>f b ⟨hb,hl⟩) hx) (RowsS.cons (n:=n) (kv:=kv) (KidsS.keep9 (fun b hb hl=>⟨hb,by simp [blkV];omega⟩) (Nat.le_succ _) (fun b _ _ _ hb hl _=>f b ⟨hb,hl⟩) hk) RowsS.nil)
  rwa[List.append_nil] at this
theorem block_tok {E m:Nat} {st:PT} (hs:PSpecB m 49 E st) (hfs:FineM m st):PSpecB (m+1) 28 E (blockOf E st):=by
 intro h r lv ts Q hp hsm hm hQ
 refine WF.code F28 rfl ?_
 have hlt:=hp.hi
 simp(disch:=(try simp only[hN]);omega)only[go_sem,simprocAttr]
 unfold blockOf openP at hQ
 refine open_tok (hp.fr ⟨by (try simp only[hN]);omega,fun b hb hne=>by (try simp only[hN] at hb hne);simp(disch:=(try simp only[hN]);omega)only[go_sem,simprocAttr]⟩) ?_
 by_cases c1:isT [[123]] ts=true
 ·rw[if_pos c1] at hQ ⊢
  by_cases h16:lv=16
  ·rw[if_pos h16] at hQ ⊢
   intro h1 hf1
   have hn1:=hf1.n;try simp only[hN] at hn1
   simp(disch:=(try simp only[hN]);omega)only[go_sem,simprocAttr]
   exact hQ _ ⟨by (try simp only[hN]);omega,fun b hb hne=>by (try simp only[hN] at hb hne);simp(disch:=(try simp only[hN]);omega)only[go_sem,simprocAttr,hf1.old]⟩
  ·rw[if_neg h16] at hQ ⊢
   simp only at hQ
   intro h1 hf1 hp1
   have hn1:=hf1.n;try simp only[hN] at hn1
   simp(disch:=(try simp only[hN]);omega)only[go_sem,simprocAttr,tokAV]
   have hlt1:=hp1.hi
   have htl:ts.tail.length+1≤ts.length:=tail_lt (isT_ne c1)
   generalize (hdT E ts).pos=P at *
   generalize ts.tail=ts1 at *
   have hR:∃R,upToL (st (lv+1)) (isT [[125]]) (ts1.length+1) [] ts1=R:=⟨_,rfl⟩
   obtain ⟨R,hR⟩:=hR
   rw[hR] at hQ
   have hz:R≠.error (0,0):=by
    rw[←hR]
    exact (upToL_fine (hfs (lv+1)) (ts1.length+1) [] ts1 (by omega) (by omega)).ne
   generalize hH:AHeap.upd (AHeap.alloc _ _) h1.n _ _=H
   have hHn:H.n=h1.n+1:=by rw[←hH];simp(disch:=(try simp only[hN]);omega)only[go_sem,simprocAttr]
   have b0:H.get h1.n=some ⟨1,.cells .own 0 (ndC (nd0 9 P [] []) .nilSlice)⟩:=by rw[←hH];simp(disch:=(try simp only[hN]);omega)only[go_sem,simprocAttr,ndC,nd0,Nd.kind,Nd.pos,Nd.name,Nd.typ,Nd.n,Nd.size,Nd.obj,Nd.bits]
   have q0:H.get h.n=some ⟨0,.cells .own 0 zN⟩:=by rw[←hH];simp(disch:=(try simp only[hN]);omega)only[go_sem,simprocAttr,hf1.old,zN]
   have hpH:PInv H r E ts1 (lv+1):=by rw[←hH];exact hp1.le (by simp only[hN];omega) fun b hb=>by simp(disch:=(try simp only[hN]);omega)only[go_sem,simprocAttr]
   have hfH:∀b',b'<h.n→b'≠r→H.get b'=h.get b':=fun b' hb1 hb2=>by rw[←hH];simp(disch:=(try simp only[hN]);omega)only[go_sem,simprocAttr,hf1.old]
   have hB:h.n<h1.n:=by omega
   have hnf:ts1.length+1≤2001:=by omega
   have hs1:ts1.length≤2000:=by omega
   have hm1:ts1.length<m:=by omega
   generalize ts1.length+1=fu at *
   generalize h1.n=B at *
   clear hH hf1 hp1 hn1 hlt1
   refine wp_loopx 0 (fun g a h'=>∃v ns ts2 v2,GKids h.n h' v ns∧PInv h' r E ts2 (lv+1)∧h'.get B=some ⟨v2,.cells .own 0 (ndC (nd0 9 P [] []) v)⟩∧h'.get h.n=some ⟨0,.cells .own 0 zN⟩∧B<h'.n∧(∀b',b'<h.n→b'≠r→h'.get b'=h.get b')∧ns.length+g≤2001∧ts2.length≤2000∧ts2.length<m∧upToL (st (lv+1)) (isT [[125]]) g ns ts2=R∧a.tm.get 0=some (.ptr r 0)∧a.tm.get 2=some (.ptr h.n 0)∧a.tm.get 3=some (.ptr B 0)∧a.df=[])
    (fun a h'=>∃v ns ts2 v2,GKids h.n h' v ns∧PInv h' r E ts2 (lv+1)∧h'.get B=some ⟨v2,.cells .own 0 (ndC (nd0 9 P [] []) v)⟩∧h'.get h.n=some ⟨0,.cells .own 0 zN⟩∧B<h'.n∧(∀b',b'<h.n→b'≠r→h'.get b'=h.get b')∧ns.length≤2001∧isT [[125]] ts2=true∧R=.ok (ns,ts2)∧a.tm.get 0=some (.ptr r 0)∧a.tm.get 2=some (.ptr h.n 0)∧a.tm.get 3=some (.ptr B 0)∧a.df=[]) ?_ ?_ fu ?_
   ·rintro g ⟨t,df⟩ h3 ⟨v,ns,ts2,v2,hg,hp3,b3,q3,hn3,hf3,hlen,hs2,hm2,hcl,k0,k2,k3,hdf⟩
    simp only at k0 k2 k3 hdf
    subst hdf
    have hlt3:=hp3.hi
    cases g with
    | zero=>exact absurd hcl.symm hz
    | succ g=>
     rw[upToL] at hcl
     simp(disch:=(try simp only[hN]);omega)only[go_sem,simprocAttr,k0,k2,k3]
     refine is_tok (ws:=[[125]]) (md:=.own) (ver:=0) (E:=E) (ts:=ts2) (lv:=lv+1) (hp3.fr ⟨by (try simp only[hN]);omega,fun b hb hne=>by (try simp only[hN] at hb hne);simp(disch:=(try simp only[hN]);omega)only[go_sem,simprocAttr]⟩) (by (first|(simp(disch:=(try simp only[hN]);omega)only[go_sem,simprocAttr,List.map];done)|(simp(disch:=(try simp only[hN]);omega)only[go_sem,simprocAttr,List.map];rfl))) (by simp only[hN];omega) (show 1<2^62 by decide) ?_
     intro h4 hf4
     have hn4:=hf4.n;try simp only[hN] at hn4
     have hp4:PInv h4 r E ts2 (lv+1):=hp3.fr ⟨by (try simp only[hN]);omega,fun b hb hne=>by (try simp only[hN] at hb hne);simp(disch:=(try simp only[hN]);omega)only[go_sem,simprocAttr,hf4.old]⟩
     have hg4:GKids h.n h4 v ns:=hg.keep (by omega) fun b _ _ _ _ hb _=>by simp(disch:=(try simp only[hN]);omega)only[go_sem,simprocAttr,hf4.old]
     have b4:h4.get B=some ⟨v2,.cells .own 0 (ndC (nd0 9 P [] []) v)⟩:=by simp(disch:=(try simp only[hN]);omega)only[go_sem,simprocAttr,hf4.old,b3]
     have q4:h4.get h.n=some ⟨0,.cells .own 0 zN⟩:=by simp(disch:=(try simp only[hN]);omega)only[go_sem,simprocAttr,hf4.old,q3]
     have hf4':∀b',b'<h.n→b'≠r→h4.get b'=h.get b':=fun b' hb1 hb2=>by simp(disch:=(try simp only[hN]);omega)only[go_sem,simprocAttr,hf4.old,hf3]
     clear hf4 hp3 hg b3 q3 hf3
     cases hi:isT [[125]] ts2
     ·rw[if_neg (by rw[hi];decide)] at hcl
      have b4l:h4.get B=some ⟨v2,.cells .own 0 [.int .i64 9,.int .i64 (P:Int),.str [],.int .i64 0,.int .i64 0,.int .i64 0,.int .i64 0,.int .u64 0,v]⟩:=b4
      simp(disch:=(try simp only[hN]);omega)only[go_sem,simprocAttr,k0,k2,k3,b4l]
      refine hs hp4 hs2 hm2 ?_
      cases hx:st (lv+1) ts2 with
      | error e=>
       obtain ⟨e,p⟩:=e
       rw[hx] at hcl
       simp only at hcl
       rw[←hcl] at hQ
       intro h5 hf5
       have hn5:=hf5.n;try simp only[hN] at hn5
       have b5l:=(hf5.old B (by omega) (by omega)).trans b4l
       simp(disch:=(try simp only[hN]);omega)only[go_sem,simprocAttr,b5l,b4l]
       exact hQ _ ⟨by (try simp only[hN]);omega,fun b hb hne=>by (try simp only[hN] at hb hne);simp(disch:=(try simp only[hN]);omega)only[go_sem,simprocAttr,hf5.old,hf4']⟩
      | ok y=>
       obtain ⟨n,ts3⟩:=y
       rw[hx] at hcl
       simp only at hcl
       have hfn:=hfs (lv+1) ts2 hm2
       rw[hx] at hfn
       simp only[FE] at hfn
       intro h5 kv hf5 hp5 hk5
       have hn5:=hf5.n;try simp only[hN] at hn5
       have b5l:=(hf5.old B (by omega) (by omega)).trans b4l
       have q5:=(hf5.old h.n (by omega) (by omega)).trans q4
       have hg5:GKids h.n (h5.alloc (.cells .own 9 (ndC n kv))) v ns:=(hg4.fr hf5 (.inl hlt)).fr (Fr.alloc (Fr.refl h5.n h5) _) (.inr (Nat.le_refl _))
       obtain ⟨v6,h6,happ,hg6,hb6,hn6,ho6⟩:=hg5.append (by simp only[hN];omega) (by omega) (hk5.keep (lo':=h4.n) (Nat.le_refl _) (by simp only[hN];omega) fun b hb1 hb2=>by simp(disch:=(try simp only[hN]);omega)only[go_sem,simprocAttr]) (by omega) (fun b hb=>(hg4.blk hb).2)
       have hvB:blkV v≠some B:=fun e=>by
        obtain ⟨css,hsl,_⟩:=hg4
        obtain ⟨_,⟨_,rfl⟩|⟨_,c,ver,rfl,_,_,hc⟩⟩:=hsl
        ·cases e
        ·cases e;rw[b4] at hc;cases hc
       have hvN:blkV v≠some h.n:=fun e=>by
        obtain ⟨css,hsl,_⟩:=hg4
        obtain ⟨_,⟨_,rfl⟩|⟨_,c,ver,rfl,_,_,hc⟩⟩:=hsl
        ·cases e
        ·cases e;rw[q4] at hc;cases hc
       have b6:h6.get B=some ⟨v2,.cells .own 0 [.int .i64 9,.int .i64 (P:Int),.str [],.int .i64 0,.int .i64 0,.int .i64 0,.int .i64 0,.int .u64 0,v]⟩:=by rw[ho6 B (by simp only[hN];omega) hvB];simp(disch:=(try simp only[hN]);omega)only[go_sem,simprocAttr,b5l]
       have q6:h6.get h.n=some ⟨0,.cells .own 0 zN⟩:=by rw[ho6 h.n (by simp only[hN];omega) hvN];simp(disch:=(try simp only[hN]);omega)only[go_sem,simprocAttr,q5]
       have hf6:∀b',b'<h.n→b'≠r→h6.get b'=h.get b':=fun b' hb1 hb2=>by
        rw[ho6 b' (by simp only[hN];omega) (fun e=>by have:=hg4.blk e;omega)]
        simp(disch:=(try simp only[hN]);omega)only[go_sem,simprocAttr,hf5.old,hf4']
       have hp6:PInv h6 r E ts3 (lv+1):=hp5.le (by rw[hn6];simp(disch:=(try simp only[hN]);omega)only[go_sem,simprocAttr];omega) fun b hb=>by
        rw[ho6 b (by simp only[hN];omega) (fun e=>by have:=hg4.blk e;omega)]
        simp(disch:=(try simp only[hN]);omega)only[go_sem,simprocAttr]
       simp only[AHeap.alloc_n] at hn6
       simp only[ndC] at happ
       simp(disch:=(try simp only[hN]);omega)only[go_sem,simprocAttr,k0,k2,k3,hk5.flat.1,hk5.flat.2,happ,b5l,b4l,b6,hg6.flat.1,hg6.flat.2]
       refine ⟨g,Nat.lt_succ_self _,v6,ns++[n],ts3,v2+1,hg6.keep (by simp only[hN];omega) (fun b _ _ _ hb1 hb2 hb3=>?_),hp6.le (by simp only[hN];omega) (fun b hb=>by simp(disch:=(try simp only[hN]);omega)only[go_sem,simprocAttr]),rfl,q6,by omega,fun b hb1 hb2=>by simp(disch:=(try simp only[hN]);omega)only[go_sem,simprocAttr,hf6],by rw[List.length_append];simp only[List.length_cons,List.length_nil];omega,by omega,by omega,hcl⟩
       have:b≠B:=by rintro rfl;rw[b6] at hb3;cases hb3
       simp(disch:=(try simp only[hN]);omega)only[go_sem,simprocAttr]
     ·rw[if_pos hi] at hcl
      simp(disch:=(try simp only[hN]);omega)only[go_sem,simprocAttr,k0,k2,k3]
      exact ⟨v,ns,ts2,v2,hg4,hp4,b4,q4,by omega,hf4',by omega,hi,hcl.symm⟩
   ·rintro ⟨t,df⟩ h3 ⟨v,ns,ts2,v2,hg,hp3,b3,q3,hn3,hf3,hlen,hi,hcl,k0,k2,k3,hdf⟩
    simp only at k0 k2 k3 hdf
    subst hdf
    rw[hcl] at hQ
    simp(disch:=(try simp only[hN]);omega)only[go_sem,simprocAttr,k0,k2,k3]
    refine close_tok (lv:=lv) hp3 ?_
    rw[if_pos hi]
    intro h4 hf4 hp4
    have hn4:=hf4.n;try simp only[hN] at hn4
    have hlt4:=hp4.hi
    have b4:h4.get B=some ⟨v2,.cells .own 0 [.int .i64 9,.int .i64 (P:Int),.str [],.int .i64 0,.int .i64 0,.int .i64 0,.int .i64 0,.int .u64 0,v]⟩:=(hf4.old B (by omega) (by omega)).trans b3
    have q4:=(hf4.old h.n (by omega) (by omega)).trans q3
    have hg4:=(hg.fr hf4 (.inl hlt)).kids (by omega)
    simp(disch:=(try simp only[hN]);omega)only[go_sem,simprocAttr,k0,k2,k3,b4,q4,hg.flat.1,hg.flat.2,zN]
    exact hQ _ v ⟨by (try simp only[hN]);omega,fun b hb hne=>by (try simp only[hN] at hb hne);simp(disch:=(try simp only[hN]);omega)only[go_sem,simprocAttr,hf4.old,hf3]⟩ (hp4.le (by simp only[hN];omega) fun b hb=>by simp(disch:=(try simp only[hN]);omega)only[go_sem,simprocAttr]) (hg4.keep9 (Nat.le_refl _) (by simp only[hN];omega) fun b _ _ _ hb1 hb2 hb3=>by
     have:b≠h.n:=by rintro rfl;rw[q4] at hb3;cases hb3
     simp(disch:=(try simp only[hN]);omega)only[go_sem,simprocAttr])
   ·refine ⟨.nilSlice,[],ts1,1,GKids.nil,hpH,b0,q0,by omega,hfH,by simpa using hnf,hs1,hm1,hR,?_⟩
    simp(disch:=(try simp only[hN]);omega)only[go_sem,simprocAttr]
 ·rw[if_neg c1] at hQ ⊢
  intro h1 hf1
  have hn1:=hf1.n;try simp only[hN] at hn1
  simp(disch:=(try simp only[hN]);omega)only[go_sem,simprocAttr]
  exact hQ _ ⟨by (try simp only[hN]);omega,fun b hb hne=>by (try simp only[hN] at hb hne);simp(disch:=(try simp only[hN]);omega)only[go_sem,simprocAttr,hf1.old]⟩
end Go.Ev
