/- The lexer's small functions: what each answers. -/
import Derived.Test.YteaoocedcjijdaaGreatDoorSEQF
import Derived.Test.YteaoocedcjijdaaGreatDoorPuA
import Derived.Test.YteaoocedcjijdaaGreatDoorEvB
set_option linter.all false
set_option linter.unusedVariables false
set_option linter.unusedSimpArgs false
namespace Go.Ev
open Go
set_option maxRecDepth 100000
set_option maxHeartbeats 4000000
def Rd (h:AHeap) (r:Nat) (s:List UInt8) (i:Nat):Prop:=∃ver,h.get r=some ⟨ver,.cells .own 0 [.str s,.int .i64 (i:Int)]⟩
structure Fr (r:Nat) (h h':AHeap):Prop where
 n:h.n≤h'.n
 old:∀b,b<h.n→b≠r→h'.get b=h.get b
theorem Fr.refl (r:Nat) (h:AHeap):Fr r h h:=⟨Nat.le_refl _,fun _ _ _=>rfl⟩
theorem Fr.trans {r:Nat} {h h1 h2:AHeap} (a:Fr r h h1) (b:Fr r h1 h2):Fr r h h2:=⟨Nat.le_trans a.n b.n,fun x hx hn=>(b.old x (Nat.lt_of_lt_of_le hx a.n) hn).trans (a.old x hx hn)⟩
theorem Fr.upd {r:Nat} (h:AHeap) (v:Nat) (o:AObj):Fr r h (h.upd r v o):=⟨Nat.le_refl _,fun b _ hb=>by rw[AHeap.get_upd,if_neg hb]⟩
theorem Fr.upd' {r:Nat} {h h1:AHeap} (f:Fr r h h1) (v:Nat) (o:AObj):Fr r h (h1.upd r v o):=f.trans (Fr.upd _ _ _)
theorem Fr.updNew {r b:Nat} {h h1:AHeap} (f:Fr r h h1) (hb:h.n≤b) (v:Nat) (o:AObj):Fr r h (h1.upd b v o):=⟨f.n,fun x hx hn=>by rw[AHeap.get_upd,if_neg (by omega)];exact f.old x hx hn⟩
theorem Fr.alloc {r:Nat} {h h1:AHeap} (f:Fr r h h1) (o:AObj):Fr r h (h1.alloc o):=⟨Nat.le_succ_of_le f.n,fun b hb hn=>by rw[AHeap.get_alloc,if_neg (by have:=f.n;omega)];exact f.old b hb hn⟩
def PureB (g:Nat) (p:UInt8→Bool):Prop:=∀c h Q,Q (.ret (.bool (p c))) h→WF F g [.int .u8 c.toNat] h Q
def atB (p:UInt8→Bool) (s:List UInt8) (i:Nat):Bool:=match s[i]? with|some c=>p c|none=>false
theorem useB {Q:QR} {h:AHeap} {a b:Bool} (hQ:Q (.ret (.bool a)) h) (e:a=b):Q (.ret (.bool b)) h:=e ▸ hQ
theorem digit_spec:PureB 119 isDigit:=by
 intro c h Q hQ
 refine WF.code F119 rfl ?_
 simp(disch:=(try simp only[hN]);omega)only[go_sem,simprocAttr]
 repeat' ((first|refine kA (fun hb=>?_) (fun hb=>?_)|refine kB (fun hb=>?_) (fun hb=>?_)|refine kC (fun hb=>?_) (fun hb=>?_)|refine kD (fun hb=>?_) (fun hb=>?_)|refine kE (fun hb=>?_) (fun hb=>?_)|refine kF (fun hb=>?_) (fun hb=>?_))<;>simp(disch:=(try simp only[hN]);omega)only[go_sem,simprocAttr,hb])
 all_goals (refine useB hQ (Bool.eq_iff_iff.2 ?_);simp [isDigit] at *;try omega)
theorem letter_spec:PureB 117 isLetter:=by
 intro c h Q hQ
 refine WF.code F117 rfl ?_
 simp(disch:=(try simp only[hN]);omega)only[go_sem,simprocAttr]
 repeat' ((first|refine kA (fun hb=>?_) (fun hb=>?_)|refine kB (fun hb=>?_) (fun hb=>?_)|refine kC (fun hb=>?_) (fun hb=>?_)|refine kD (fun hb=>?_) (fun hb=>?_)|refine kE (fun hb=>?_) (fun hb=>?_)|refine kF (fun hb=>?_) (fun hb=>?_))<;>simp(disch:=(try simp only[hN]);omega)only[go_sem,simprocAttr,hb])
 all_goals (refine useB hQ (Bool.eq_iff_iff.2 ?_);simp [isLetter] at *;try omega)
theorem blank_spec:PureB 113 isBlank:=by
 intro c h Q hQ
 refine WF.code F113 rfl ?_
 simp(disch:=(try simp only[hN]);omega)only[go_sem,simprocAttr]
 repeat' ((first|refine kA (fun hb=>?_) (fun hb=>?_)|refine kB (fun hb=>?_) (fun hb=>?_)|refine kC (fun hb=>?_) (fun hb=>?_)|refine kD (fun hb=>?_) (fun hb=>?_)|refine kE (fun hb=>?_) (fun hb=>?_)|refine kF (fun hb=>?_) (fun hb=>?_))<;>simp(disch:=(try simp only[hN]);omega)only[go_sem,simprocAttr,hb])
 all_goals (refine useB hQ (Bool.eq_iff_iff.2 ?_);simp [isBlank] at *;try omega)
theorem notNL_spec:PureB 115 notNL:=by
 intro c h Q hQ
 refine WF.code F115 rfl ?_
 simp(disch:=(try simp only[hN]);omega)only[go_sem,simprocAttr]
 refine useB hQ (Bool.eq_iff_iff.2 ?_)
 simp [notNL]
 try omega
theorem inWord_spec:PureB 152 isWord:=by
 intro c h Q hQ
 refine WF.code F152 rfl ?_
 simp(disch:=(try simp only[hN]);omega)only[go_sem,simprocAttr]
 refine letter_spec _ _ _ ?_
 simp(disch:=(try simp only[hN]);omega)only[go_sem,simprocAttr]
 (first|refine kA (fun hb=>?_) (fun hb=>?_)|refine kB (fun hb=>?_) (fun hb=>?_)|refine kC (fun hb=>?_) (fun hb=>?_)|refine kD (fun hb=>?_) (fun hb=>?_)|refine kE (fun hb=>?_) (fun hb=>?_)|refine kF (fun hb=>?_) (fun hb=>?_))<;>simp(disch:=(try simp only[hN]);omega)only[go_sem,simprocAttr,hb]
 ·refine digit_spec _ _ _ ?_
  simp(disch:=(try simp only[hN]);omega)only[go_sem,simprocAttr,hb]
  exact useB hQ (by simp [isWord,hb])
 ·exact useB hQ (by simp [isWord,hb])
theorem here_spec {r i:Nat} {s:List UInt8} {g:Nat} {h:AHeap} {p:UInt8→Bool} (hrd:Rd h r s i) (hp:PureB g p) {Q:QR} (hQ:Q (.ret (.bool (atB p s i))) h):WF F 116 [.ptr r 0,.func (.func g) [] []] h Q:=by
 obtain ⟨ver,hr⟩:=hrd
 refine WF.code F116 rfl ?_
 simp(disch:=(try simp only[hN]);omega)only[go_sem,simprocAttr,hr]
 (first|refine kA (fun hb=>?_) (fun hb=>?_)|refine kB (fun hb=>?_) (fun hb=>?_)|refine kC (fun hb=>?_) (fun hb=>?_)|refine kD (fun hb=>?_) (fun hb=>?_)|refine kE (fun hb=>?_) (fun hb=>?_)|refine kF (fun hb=>?_) (fun hb=>?_))
 ·have hb':i<s.length:=by simpa using hb
  have hi:s[i]?=some s[i]:=List.getElem?_eq_getElem hb'
  simp(disch:=(try simp only[hN]);omega)only[go_sem,simprocAttr,hr,hb,hi]
  refine hp _ _ _ ?_
  simp(disch:=(try simp only[hN]);omega)only[go_sem,simprocAttr,hr,hb,hi]
  simpa [atB,hi] using hQ
 ·have hi:s[i]?=none:=by simpa using hb
  simp(disch:=(try simp only[hN]);omega)only[go_sem,simprocAttr,hr,hb]
  simpa [atB,hi] using hQ
theorem takeWhile_drop (p:UInt8→Bool) (s:List UInt8) (i:Nat) (h:atB p s i=true):i<s.length∧((s.drop i).takeWhile p).length=((s.drop (i+1)).takeWhile p).length+1:=by
 unfold atB at h
 cases e:s[i]? with
 | none=>rw[e] at h;cases h
 | some c=>
  rw[e] at h
  obtain ⟨hl,hc⟩:=List.getElem?_eq_some_iff.1 e
  refine ⟨hl,?_⟩
  rw[List.drop_eq_getElem_cons hl,hc,List.takeWhile_cons,if_pos h]
  rfl
theorem takeWhile_stop (p:UInt8→Bool) (s:List UInt8) (i:Nat) (h:atB p s i=false):(s.drop i).takeWhile p=[]:=by
 unfold atB at h
 cases e:s[i]? with
 | none=>rw[List.drop_eq_nil_of_le (by simpa using e)];rfl
 | some c=>
  rw[e] at h
  obtain ⟨hl,hc⟩:=List.getElem?_eq_some_iff.1 e
  have h':¬p c=true:=by simp only at h;simp [h]
  rw[List.drop_eq_getElem_cons hl,hc,List.takeWhile_cons,if_neg h']
theorem take_takeWhile (p:UInt8→Bool) (l:List UInt8):l.take (l.takeWhile p).length=l.takeWhile p:=by
 induction l with
 | nil=>rfl
 | cons c l ih=>
  rw[List.takeWhile_cons]
  cases p c with
  | false=>rfl
  | true=>simp [ih]
theorem takeWhile_le (p:UInt8→Bool) (s:List UInt8) (i:Nat) (hi:i≤s.length):i+((s.drop i).takeWhile p).length≤s.length:=by
 have h1:((s.drop i).takeWhile p).length≤(s.drop i).length:=(List.takeWhile_prefix p).length_le
 rw[List.length_drop] at h1
 omega
theorem while_spec {r g:Nat} {s:List UInt8} {p:UInt8→Bool} (hbig:s.length<2^62) (hp:PureB g p) {i:Nat} {h:AHeap} (hi:i≤s.length) (hrd:Rd h r s i) {Q:QR}
  (hQ:∀h',Rd h' r s (i+((s.drop i).takeWhile p).length)→Fr r h h'→Q (.ret (.str ((s.drop i).takeWhile p))) h'):WF F 112 [.ptr r 0,.func (.func g) [] []] h Q:=by
 have hrd0:=hrd
 obtain ⟨ver,hr⟩:=hrd
 refine WF.code F112 rfl ?_
 simp(disch:=(try simp only[hN]);omega)only[go_sem,simprocAttr,hr]
 refine wp_loop (fun n a h1=>∃j,n=s.length-j∧i≤j∧j≤s.length∧Rd h1 r s j∧Fr r h h1∧j+((s.drop j).takeWhile p).length=i+((s.drop i).takeWhile p).length∧a.tm.get 0=some (.ptr r 0)∧a.tm.get 1=some (.func (.func g) [] [])∧a.tm.get 5=some (.int .i64 (i:Int))∧a.df=[]) ?_ (s.length-i) ⟨i,rfl,Nat.le_refl _,hi,hrd0,Fr.refl _ _,rfl,by simp(disch:=(try simp only[hN]);omega)only[go_sem,simprocAttr],by simp(disch:=(try simp only[hN]);omega)only[go_sem,simprocAttr],by simp(disch:=(try simp only[hN]);omega)only[go_sem,simprocAttr],rfl⟩
 rintro n ⟨t,df⟩ h1 ⟨j,hn,hij,hjs,hrd1,hfr,htw,h0,h1',h5,hdf⟩
 simp only at h0 h1' h5 hdf
 subst hdf
 simp(disch:=(try simp only[hN]);omega)only[go_sem,simprocAttr,h0,h1',h5]
 refine here_spec hrd1 hp ?_
 simp(disch:=(try simp only[hN]);omega)only[go_sem,simprocAttr,h0,h1',h5]
 obtain ⟨ver1,hr1⟩:=hrd1
 (first|refine kA (fun hb=>?_) (fun hb=>?_)|refine kB (fun hb=>?_) (fun hb=>?_)|refine kC (fun hb=>?_) (fun hb=>?_)|refine kD (fun hb=>?_) (fun hb=>?_)|refine kE (fun hb=>?_) (fun hb=>?_)|refine kF (fun hb=>?_) (fun hb=>?_))
 ·obtain ⟨hl,hw⟩:=takeWhile_drop p s j hb
  simp(disch:=(try simp only[hN]);omega)only[go_sem,simprocAttr,h0,hr1]
  refine ⟨s.length-(j+1),by omega,j+1,rfl,by omega,by omega,⟨ver1+1,by (first|(simp(disch:=(try simp only[hN]);omega)only[go_sem,simprocAttr];done)|(simp(disch:=(try simp only[hN]);omega)only[go_sem,simprocAttr];rfl))⟩,hfr.trans (Fr.upd _ _ _),by omega,?_⟩
  simp(disch:=(try simp only[hN]);omega)only[go_sem,simprocAttr,h0,h1',h5]
 ·have hw:=takeWhile_stop p s j hb
  rw[hw] at htw
  have hj:j=i+((s.drop i).takeWhile p).length:=by simpa using htw
  have hle:=takeWhile_le p s i hi
  simp(disch:=(try simp only[hN]);omega)only[go_sem,simprocAttr,h0,h1',h5,hb,hr1]
  rw[hj] at hr1 ⊢
  simp(disch:=(try simp only[hN]);omega)only[go_sem,simprocAttr,Nat.add_sub_cancel_left,take_takeWhile]
  exact hQ _ ⟨_,hr1⟩ hfr
def gi (e:Nat):Nat:=([2,3,4,5,6,7,8,1,0,9,10,11,12,13,14,15,16]:List Nat).getD (e-1) 0
def errG (g:Nat):AV:=.iface 218 (.ptr (21+g) 0)
def errAV (e:Nat):AV:=errG (gi e)
@[go_sem] theorem cells_err {e:Nat}:AV.cells (errAV e)=[errAV e]:=Eq.trans rfl rfl
@[go_sem] theorem flat_err {e:Nat}:AV.flat (errAV e)=true:=Eq.trans rfl rfl
@[go_sem] theorem cells_errG {e:Nat}:AV.cells (errG e)=[errG e]:=Eq.trans rfl rfl
@[go_sem] theorem flat_errG {e:Nat}:AV.flat (errG e)=true:=Eq.trans rfl rfl
@[go_sem] theorem eqT_err {e:Nat}:eqT (.one .iface) (errAV e) .nilIface=some false:=Eq.trans rfl rfl
@[go_sem] theorem eqT_nil:eqT (.one .iface) .nilIface .nilIface=some true:=Eq.trans rfl rfl
structure GH (h:AHeap):Prop where
 n:21+17≤h.n
 gl:∀g,knG g=true→h.get g=some ⟨0,.cells .ro 0 [errG g]⟩
 st:∀g,knG g=true→h.get (21+g)=some ⟨0,.cells .sent 0 [.str (txt g)]⟩
 tb:∀g vs,dtG g=some vs→h.get g=some ⟨0,.cells .tab 0 vs⟩
theorem Fr.gh {r:Nat} {h h':AHeap} (f:Fr r h h') (hr:21+17≤r) (g:GH h):GH h':=
 ⟨Nat.le_trans g.n f.n,fun i hi=>by have hi2:=knG_lt hi;rw[f.old _ (by have:=g.n;omega) (by omega)];exact g.gl i hi,fun i hi=>by have hi2:=knG_lt hi;rw[f.old _ (by have:=g.n;omega) (by omega)];exact g.st i hi,fun i vs hi=>by have hi2:=dtG_lt hi;rw[f.old _ (by have:=g.n;omega) (by omega)];exact g.tb i vs hi⟩
theorem GH.alloc {h:AHeap} (g:GH h) (o:AObj):GH (h.alloc o):=(Fr.alloc (Fr.refl h.n h) o).gh g.n g
theorem GH.upd {h:AHeap} (g:GH h) {b:Nat} (hb:21+17≤b) (v:Nat) (o:AObj):GH (h.upd b v o):=(Fr.upd h v o).gh hb g
theorem GH.g0 {h:AHeap} (g:GH h):h.get 7=some ⟨0,.cells .ro 0 [errAV 6]⟩:=g.gl 7 (by decide)
theorem GH.g1 {h:AHeap} (g:GH h):h.get 2=some ⟨0,.cells .ro 0 [errAV 1]⟩:=g.gl 2 (by decide)
theorem GH.g2 {h:AHeap} (g:GH h):h.get 3=some ⟨0,.cells .ro 0 [errAV 2]⟩:=g.gl 3 (by decide)
theorem GH.g3 {h:AHeap} (g:GH h):h.get 4=some ⟨0,.cells .ro 0 [errAV 3]⟩:=g.gl 4 (by decide)
def tokStop (e pos:Nat):CRes:=.pan (.iface 117 (.agg [errAV e,.int .i64 (pos:Int)]))
attribute [go_sem] tokStop
def RdL (h:AHeap) (r:Nat) (s l:Bs):Prop:=l <:+ s∧Rd h r s (s.length-l.length)
theorem suf_drop {s l:Bs} (h:l <:+ s):s.drop (s.length-l.length)=l:=by
 obtain ⟨p,rfl⟩:=h
 simp
theorem suf_len {s l:Bs} (h:l <:+ s):l.length≤s.length:=h.length_le
theorem dropWhile_len (p:UInt8→Bool) (l:Bs):(l.dropWhile p).length+(l.takeWhile p).length=l.length:=by
 have:=congrArg List.length (List.takeWhile_append_dropWhile (p:=p) (l:=l))
 rw[List.length_append] at this
 omega
theorem dropWhile_suf (p:UInt8→Bool) (l:Bs):l.dropWhile p <:+ l:=List.dropWhile_suffix p
theorem whileL {r g:Nat} {s l:Bs} {p:UInt8→Bool} (hbig:s.length<2^62) (hp:PureB g p) {h:AHeap} (hrd:RdL h r s l) {Q:QR}
  (hQ:∀h',RdL h' r s (l.dropWhile p)→Fr r h h'→Q (.ret (.str (l.takeWhile p))) h'):WF F 112 [.ptr r 0,.func (.func g) [] []] h Q:=by
 have h1:=suf_len hrd.1
 have h2:=dropWhile_len p l
 refine while_spec hbig hp (i:=s.length-l.length) (by omega) hrd.2 ?_
 intro h' hr hf
 rw[suf_drop hrd.1] at hr ⊢
 refine hQ h' ⟨(dropWhile_suf p l).trans hrd.1,?_⟩ hf
 have e:s.length-(l.dropWhile p).length=s.length-l.length+(l.takeWhile p).length:=by omega
 rw[e];exact hr
theorem hereL {r g:Nat} {s l:Bs} {p:UInt8→Bool} {h:AHeap} (hp:PureB g p) (hrd:RdL h r s l) {Q:QR} (hQ:Q (.ret (.bool (headB p l))) h):WF F 116 [.ptr r 0,.func (.func g) [] []] h Q:=by
 refine here_spec hrd.2 hp (useB hQ ?_)
 have h1:=suf_len hrd.1
 have h2:s[s.length-l.length]?=l[0]?:=by
  have:=congrArg (fun l=>l[0]?) (suf_drop hrd.1)
  simpa using this
 unfold atB
 rw[h2]
 cases l<;>rfl
theorem slHasPrefix {a b:Bs} {h:AHeap} {Q:QR} (hQ:Q (.ret (.bool (hasP a b))) h):WF F 151 [.str a,.str b] h Q:=by
 refine WF.code F151 rfl ?_
 simp(disch:=(try simp only[hN]);omega)only[go_sem,simprocAttr]
 (first|refine kA (fun hb=>?_) (fun hb=>?_)|refine kB (fun hb=>?_) (fun hb=>?_)|refine kC (fun hb=>?_) (fun hb=>?_)|refine kD (fun hb=>?_) (fun hb=>?_)|refine kE (fun hb=>?_) (fun hb=>?_)|refine kF (fun hb=>?_) (fun hb=>?_))
 ·have hle:b.length≤a.length:=by simpa using hb
  simp(disch:=(try simp only[hN]);omega)only[go_sem,simprocAttr,hb,bnd_num hle,List.drop_zero,Nat.sub_zero]
  exact hQ
 ·simp(disch:=(try simp only[hN]);omega)only[go_sem,simprocAttr,hb]
  refine useB hQ ?_
  simp at hb
  simp only[hasP,beq_eq_false_iff_ne,ne_eq]
  intro e
  have:=congrArg List.length e
  rw[List.length_take] at this
  omega
theorem hasPrefix {a b:Bs} {h:AHeap} {Q:QR} (hQ:Q (.ret (.bool (hasP a b))) h):WF F 114 [.str a,.str b] h Q:=by
 refine WF.code F114 rfl ?_
 simp(disch:=(try simp only[hN]);omega)only[go_sem,simprocAttr]
 refine slHasPrefix ?_
 simp(disch:=(try simp only[hN]);omega)only[go_sem,simprocAttr]
 exact hQ
theorem indexByte {s:Bs} {c:UInt8} {h:AHeap} {Q:QR} (hQ:Q (.ret (.int .i64 (findB c.toNat s 0))) h):WF F 155 [.str s,.int .u8 c.toNat] h Q:=by
 refine WF.code F155 rfl ?_
 simp(disch:=(try simp only[hN]);omega)only[go_sem,simprocAttr]
 refine WF.code F174 rfl ?_
 simp(disch:=(try simp only[hN]);omega)only[go_sem,simprocAttr]
 refine WF.prim F188 rfl ?_
 simp(disch:=(try simp only[hN]);omega)only[go_sem,simprocAttr,UInt8.ofNat_toNat]
 exact hQ
def findW (w:Bs):List Bs→Nat→Int
 | [],_=>-1
 | x::r,i=>bif w==x then i else findW w r (i+1)
theorem sIndex {ws:List Bs} {w:Bs} {b ver cap:Nat} {ex:Bool} {md:Md} {h:AHeap} (hb:h.get b=some ⟨ver,.cells md 1 (ws.map .str)⟩) (hl:ws.length<2^62) {Q:QR} (hQ:Q (.ret (.int .i64 (findW w ws 0))) h):WF F 134 [.slice b 0 ws.length cap ex,.str w] h Q:=by
 refine WF.code F134 rfl ?_
 simp(disch:=(try simp only[hN]);omega)only[go_sem,simprocAttr]
 refine wp_loop (fun n a h1=>∃i:Nat,n=ws.length-i∧i≤ws.length∧h1=h∧findW w ws 0=findW w (ws.drop i) i∧a.tm.get 0=some (.slice b 0 ws.length cap ex)∧a.tm.get 1=some (.str w)∧a.tm.get 7=some (.int .i64 (ws.length:Int))∧a.tm.get 8=some (.int .i64 (i:Int))∧a.df=[]) ?_ ws.length ⟨0,rfl,Nat.zero_le _,rfl,rfl,by simp(disch:=(try simp only[hN]);omega)only[go_sem,simprocAttr],by simp(disch:=(try simp only[hN]);omega)only[go_sem,simprocAttr],by simp(disch:=(try simp only[hN]);omega)only[go_sem,simprocAttr],by (first|(simp(disch:=(try simp only[hN]);omega)only[go_sem,simprocAttr];done)|(simp(disch:=(try simp only[hN]);omega)only[go_sem,simprocAttr];rfl)),rfl⟩
 rintro n ⟨t,df⟩ h1 ⟨i,hn,hi,rfl,hf,g0,g1,g7,g8,hdf⟩
 simp only at g0 g1 g7 g8 hdf
 subst hdf
 simp(disch:=(try simp only[hN]);omega)only[go_sem,simprocAttr,g0,g1,g7,g8]
 (first|refine kA (fun hc=>?_) (fun hc=>?_)|refine kB (fun hc=>?_) (fun hc=>?_)|refine kC (fun hc=>?_) (fun hc=>?_)|refine kD (fun hc=>?_) (fun hc=>?_)|refine kE (fun hc=>?_) (fun hc=>?_)|refine kF (fun hc=>?_) (fun hc=>?_))
 ·have hlt:i<ws.length:=by simpa using hc
  have hd:ws.drop i=ws[i]::ws.drop (i+1):=List.drop_eq_getElem_cons hlt
  have hg:(ws.map AV.str)[i]?=some (.str ws[i]):=by simp [hlt]
  rw[hd] at hf
  have hlt':((i:Int)<(ws.length:Int))=True:=by simp [hlt]
  simp(disch:=(try simp only[hN]);omega)only[go_sem,simprocAttr,g0,g1,g7,g8,hc,hlt',hb,Nat.mul_one,hg]
  (first|refine kA (fun he=>?_) (fun he=>?_)|refine kB (fun he=>?_) (fun he=>?_)|refine kC (fun he=>?_) (fun he=>?_)|refine kD (fun he=>?_) (fun he=>?_)|refine kE (fun he=>?_) (fun he=>?_)|refine kF (fun he=>?_) (fun he=>?_))
  ·simp(disch:=(try simp only[hN]);omega)only[go_sem,simprocAttr,g0,g1,g7,g8,hc]
   simp only[findW,he,cond_true] at hf
   rw[←hf];exact hQ
  ·simp(disch:=(try simp only[hN]);omega)only[go_sem,simprocAttr,g0,g1,g7,g8,hc]
   simp only[findW,he,cond_false] at hf
   refine ⟨ws.length-(i+1),by omega,i+1,rfl,by omega,hf,?_⟩
   rfl
 ·have hge:ws.length≤i:=by simpa using hc
  have e:ws.drop i=[]:=List.drop_eq_nil_of_le hge
  rw[e] at hf
  simp(disch:=(try simp only[hN]);omega)only[go_sem,simprocAttr,hc]
  simp only[findW] at hf
  rw[←hf];exact hQ
theorem findW_contains (w:Bs):∀(ws:List Bs) (i:Nat),decide (findW w ws i≥0)=ws.contains w
 | [],i=>rfl
 | x::r,i=>by
  have ih:=findW_contains w r (i+1)
  by_cases e:w=x
  ·have h1:findW w (x::r) i=i:=by simp [findW,e]
   rw[h1];simp [e]
  ·have e':(w==x)=false:=beq_eq_false_iff_ne.2 e
   have h1:findW w (x::r) i=findW w r (i+1):=by simp only[findW,e',cond_false]
   rw[h1,ih];simp [e]
theorem sContains {ws:List Bs} {w:Bs} {b ver cap:Nat} {ex:Bool} {md:Md} {h:AHeap} (hb:h.get b=some ⟨ver,.cells md 1 (ws.map .str)⟩) (hl:ws.length<2^62) {Q:QR} (hQ:Q (.ret (.bool (ws.contains w))) h):WF F 133 [.slice b 0 ws.length cap ex,.str w] h Q:=by
 refine WF.code F133 rfl ?_
 simp(disch:=(try simp only[hN]);omega)only[go_sem,simprocAttr]
 refine sIndex hb hl ?_
 simp(disch:=(try simp only[hN]);omega)only[go_sem,simprocAttr]
 exact useB hQ (findW_contains _ _ _).symm
theorem key_spec {w:Bs} {h:AHeap} {Q:QR} (hQ:∀h',Fr h.n h h'→Q (.ret (.bool (keys.contains w))) h'):WF F 153 [.str w] h Q:=by
 refine WF.code F153 rfl ?_
 simp(disch:=(try simp only[hN]);omega)only[go_sem,simprocAttr]
 refine sContains (ws:=keys) (ver:=0) (md:=.own) (by (first|(simp(disch:=(try simp only[hN]);omega)only[go_sem,simprocAttr];done)|(simp(disch:=(try simp only[hN]);omega)only[go_sem,simprocAttr];rfl))) (by decide) ?_
 simp(disch:=(try simp only[hN]);omega)only[go_sem,simprocAttr]
 exact hQ _ (Fr.alloc (Fr.refl _ _) _)
theorem stop_spec {r e p:Nat} {h:AHeap} {Q:QR} (hQ:Q (tokStop e p) h):WF F 72 [.ptr r 0,errAV e,.int .i64 (p:Int)] h Q:=by
 refine WF.code F72 rfl ?_
 simp(disch:=(try simp only[hN]);omega)only[go_sem,simprocAttr]
 exact hQ
theorem RdL.of {h h':AHeap} {r:Nat} {s l:Bs} (hrd:RdL h r s l) (e:h'.get r=h.get r):RdL h' r s l:=⟨hrd.1,by obtain ⟨v,hv⟩:=hrd.2;exact ⟨v,e.trans hv⟩⟩
theorem RdL.mk' {h:AHeap} {r v q:Nat} {s l:Bs} (hs:l <:+ s) (hq:q+l.length=s.length) (hr:h.get r=some ⟨v,.cells .own 0 [.str s,.int .i64 (q:Int)]⟩):RdL h r s l:=⟨hs,v,by rw[show s.length-l.length=q by omega];exact hr⟩
def tokAV (t:Tok):AV:=.agg [.int .i64 (t.kind:Int),.str t.text,.int .i64 (t.n:Int),.int .u64 (t.bits:Int),.int .i64 (t.pos:Int)]
def TokQ (r:Nat) (s:Bs) (h:AHeap) (Q:QR):Except Err (Tok×Bs)→Prop
 | .ok (t,l')=>∀h',RdL h' r s l'→Fr r h h'→Q (.ret (tokAV t)) h'
 | .error (e,p)=>∀h',Fr r h h'→Q (tokStop e p) h'
theorem word_spec {r:Nat} {s l:Bs} {h:AHeap} (hG:GH h) (hr0:21+17≤r) (hrn:r<h.n) (hbig:s.length<2^62) (hrd:RdL h r s l) {Q:QR} (hQ:TokQ r s h Q (wordTok s.length l)):WF F 118 [.ptr r 0] h Q:=by
 have hl:=suf_len hrd.1
 have hrd0:=hrd
 obtain ⟨hsuf,ver,hr⟩:=hrd
 refine WF.code F118 rfl ?_
 simp(disch:=(try simp only[hN]);omega)only[go_sem,simprocAttr,hr]
 refine whileL hbig inWord_spec (hrd0.of (by simp(disch:=(try simp only[hN]);omega)only[go_sem,simprocAttr])) ?_
 intro h1 hrd1 hf1
 have hG1:GH h1:=hf1.gh hr0 (((hG.alloc _).alloc _).upd (by have:=hG.n;omega) _ _)
 have ht:(l.takeWhile isWord).length≤l.length:=(List.takeWhile_prefix _).length_le
 simp(disch:=(try simp only[hN]);omega)only[go_sem,simprocAttr,hf1.old]
 have hn1:=hf1.n;try simp only[hN] at hn1
 (first|refine kA (fun hb=>?_) (fun hb=>?_)|refine kB (fun hb=>?_) (fun hb=>?_)|refine kC (fun hb=>?_) (fun hb=>?_)|refine kD (fun hb=>?_) (fun hb=>?_)|refine kE (fun hb=>?_) (fun hb=>?_)|refine kF (fun hb=>?_) (fun hb=>?_))
 ·have hb':24<(l.takeWhile isWord).length:=(by have:=of_decide_eq_true hb;omega)
  simp(disch:=(try simp only[hN]);omega)only[go_sem,simprocAttr,hG1.g0,hb]
  refine stop_spec ?_
  simp(disch:=(try simp only[hN]);omega)only[go_sem,simprocAttr]
  simp only[wordTok,if_pos hb',TokQ] at hQ
  exact hQ _ ⟨by (try simp only[hN]);omega,fun b hb hne=>by (try simp only[hN] at hb hne);simp(disch:=(try simp only[hN]);omega)only[go_sem,simprocAttr,hf1.old]⟩
 ·have hb':¬24<(l.takeWhile isWord).length:=(by have:=of_decide_eq_false hb;omega)
  simp(disch:=(try simp only[hN]);omega)only[go_sem,simprocAttr,hb]
  refine key_spec ?_
  intro h2 hf2
  have hn2:=hf2.n;try simp only[hN] at hn2
  simp(disch:=(try simp only[hN]);omega)only[go_sem,simprocAttr]
  simp only[wordTok,if_neg hb',TokQ] at hQ
  (first|refine kA (fun hk=>?_) (fun hk=>?_)|refine kB (fun hk=>?_) (fun hk=>?_)|refine kC (fun hk=>?_) (fun hk=>?_)|refine kD (fun hk=>?_) (fun hk=>?_)|refine kE (fun hk=>?_) (fun hk=>?_)|refine kF (fun hk=>?_) (fun hk=>?_))
  ·rw[hk] at hQ
   simp(disch:=(try simp only[hN]);omega)only[go_sem,simprocAttr,hk,hf2.old,hf1.old]
   exact hQ _ (hrd1.of (by simp(disch:=(try simp only[hN]);omega)only[go_sem,simprocAttr,hf2.old])) ⟨by (try simp only[hN]);omega,fun b hb hne=>by (try simp only[hN] at hb hne);simp(disch:=(try simp only[hN]);omega)only[go_sem,simprocAttr,hf2.old,hf1.old]⟩
  ·rw[hk] at hQ
   simp(disch:=(try simp only[hN]);omega)only[go_sem,simprocAttr,hk,hf2.old,hf1.old]
   exact hQ _ (hrd1.of (by simp(disch:=(try simp only[hN]);omega)only[go_sem,simprocAttr,hf2.old])) ⟨by (try simp only[hN]);omega,fun b hb hne=>by (try simp only[hN] at hb hne);simp(disch:=(try simp only[hN]);omega)only[go_sem,simprocAttr,hf2.old,hf1.old]⟩
theorem alone_spec {r:Nat} {s l:Bs} {h:AHeap} (hG:GH h) (hrd:RdL h r s l) {Q:QR} (hQ:if headB isWord l then Q (tokStop 2 (s.length-l.length)) h else Q (.ret (.tuple [])) h):WF F 154 [.ptr r 0] h Q:=by
 refine WF.code F154 rfl ?_
 simp(disch:=(try simp only[hN]);omega)only[go_sem,simprocAttr]
 refine hereL inWord_spec hrd ?_
 obtain ⟨hsuf,ver,hr⟩:=hrd
 simp(disch:=(try simp only[hN]);omega)only[go_sem,simprocAttr]
 (first|refine kA (fun hb=>?_) (fun hb=>?_)|refine kB (fun hb=>?_) (fun hb=>?_)|refine kC (fun hb=>?_) (fun hb=>?_)|refine kD (fun hb=>?_) (fun hb=>?_)|refine kE (fun hb=>?_) (fun hb=>?_)|refine kF (fun hb=>?_) (fun hb=>?_))
 ·rw[if_pos hb] at hQ
  simp(disch:=(try simp only[hN]);omega)only[go_sem,simprocAttr,hr,hG.g2]
  refine stop_spec ?_
  simp(disch:=(try simp only[hN]);omega)only[go_sem,simprocAttr]
  exact hQ
 ·rw[hb] at hQ
  simp(disch:=(try simp only[hN]);omega)only[go_sem,simprocAttr,hb]
  exact hQ
theorem decVal_succ {t:Bs} {i:Nat} {c:UInt8} (h:t[i]?=some c):decVal (t.take (i+1))=10*decVal (t.take i)+(c.toNat-48):=by
 have e:t.take (i+1)=t.take i++[c]:=by
  obtain ⟨hl,hc⟩:=List.getElem?_eq_some_iff.1 h
  rw[List.take_succ_eq_append_getElem hl,hc]
 simp only[decVal,e,List.foldl_append,List.foldl_cons,List.foldl_nil]
theorem numText_len {l:Bs} (hl:l≠[]):(numText l).length≤l.length:=by
 unfold numText
 split
 ·cases l with
  | nil=>exact absurd rfl hl
  | cons c l=>simp
 ·exact (List.takeWhile_prefix _).length_le
theorem numText_digits {l:Bs} {i:Nat} {c:UInt8} (h:(numText l)[i]?=some c):48≤c.toNat∧c.toNat≤57:=by
 have hm:=List.mem_of_getElem? h
 unfold numText at hm
 split at hm
 ·simp at hm;subst hm;decide
 ·have:=List.all_eq_true.1 (List.all_takeWhile (p:=isDigit) (l:=l)) c hm
  simpa [isDigit] using this
theorem RdL.pos {h:AHeap} {r:Nat} {s l:Bs} (hrd:RdL h r s l):∃p ver,s.length-l.length=p∧p+l.length=s.length∧h.get r=some ⟨ver,.cells .own 0 [.str s,.int .i64 (p:Int)]⟩∧s.drop p=l∧s[p]?=l[0]?:=by
 obtain ⟨hsuf,ver,hr⟩:=hrd
 have hl:=suf_len hsuf
 have hd:=suf_drop hsuf
 refine ⟨_,ver,rfl,by omega,hr,hd,?_⟩
 have:=congrArg (fun l=>l[0]?) hd
 simpa using this
theorem number_spec {r:Nat} {s l:Bs} {h:AHeap} (hG:GH h) (hr0:21+17≤r) (hrn:r<h.n) (hbig:s.length<2^62) (hrd:RdL h r s l) (hne:l≠[]) {Q:QR} (hQ:TokQ r s h Q (numTok s.length l)):WF F 120 [.ptr r 0] h Q:=by
 have htl:=numText_len hne
 obtain ⟨c,l0,hcl⟩:∃c l0,l=c::l0:=by cases l with|nil=>exact absurd rfl hne|cons c l=>exact ⟨c,l,rfl⟩
 rw[numTok_eq] at hQ
 obtain ⟨p,ver,hp,hpl,hr,hd,hc⟩:=hrd.pos
 rw[hp] at hQ
 rw[show l[0]?=some c by rw[hcl];rfl] at hc
 have hlt:p<s.length:=by have:=congrArg List.length hcl;simp only[List.length_cons] at this;omega
 refine WF.code F120 rfl ?_
 simp(disch:=(try simp only[hN]);omega)only[go_sem,simprocAttr,hr,hc]
 refine cond_cut (fun a h'=>∃t,a=⟨t,[]⟩∧t.get 0=some (.ptr r 0)∧t.get 2=some (.ptr h.n 0)∧t.get 3=some (.ptr (h.n+1) 0)∧(∃ver,h'.get (h.n+1)=some ⟨ver,.cells .own 0 [.int .i64 3,.str (numText l),.int .i64 0,.int .u64 0,.int .i64 (p:Int)]⟩)∧(∃ver,h'.get h.n=some ⟨ver,.cells .own 0 [.int .i64 0,.str [],.int .i64 0,.int .u64 0,.int .i64 0]⟩)∧RdL h' r s (numRest l)∧Fr r h h'∧h.n+2≤h'.n) ?_ ?_
 ·(first|refine kA (fun hz=>?_) (fun hz=>?_)|refine kB (fun hz=>?_) (fun hz=>?_)|refine kC (fun hz=>?_) (fun hz=>?_)|refine kD (fun hz=>?_) (fun hz=>?_)|refine kE (fun hz=>?_) (fun hz=>?_)|refine kF (fun hz=>?_) (fun hz=>?_))
  ·have hz':numZero l=true:=by
    have:(c.toNat:Int)=48:=by simpa using hz
    rw[hcl];simp only[numZero,decide_eq_true_eq];omega
   simp(disch:=(try simp only[hN]);omega)only[go_sem,simprocAttr,hr]
   refine ⟨_,rfl,?_⟩
   simp(disch:=(try simp only[hN]);omega)only[go_sem,simprocAttr]
   simp only[numText,numRest,hz',if_true]
   refine ⟨⟨_,rfl⟩,⟨_,rfl⟩,⟨(List.drop_suffix 1 _).trans hrd.1,ver+1,?_⟩,⟨by (try simp only[hN]);omega,fun b hb hne=>by (try simp only[hN] at hb hne);simp(disch:=(try simp only[hN]);omega)only[go_sem,simprocAttr]⟩,by omega⟩
   simp(disch:=(try simp only[hN]);omega)only[go_sem,simprocAttr]
   have e:s.length-(l.drop 1).length=p+1:=by rw[List.length_drop];omega
   rw[e]
   rfl
  ·have hz':numZero l=false:=by
    have:¬(c.toNat:Int)=48:=by simpa using hz
    rw[hcl];simp only[numZero,decide_eq_false_iff_not];omega
   simp(disch:=(try simp only[hN]);omega)only[go_sem,simprocAttr]
   refine whileL hbig digit_spec (hrd.of (by simp(disch:=(try simp only[hN]);omega)only[go_sem,simprocAttr])) ?_
   intro h1 hrd1 hf1
   have hn1:=hf1.n;try simp only[hN] at hn1
   simp(disch:=(try simp only[hN]);omega)only[go_sem,simprocAttr,hf1.old]
   refine ⟨_,rfl,?_⟩
   simp(disch:=(try simp only[hN]);omega)only[go_sem,simprocAttr,hf1.old]
   simp only[numText,numRest,hz',if_false,Bool.false_eq_true]
   refine ⟨⟨_,rfl⟩,⟨_,rfl⟩,hrd1.of (by simp(disch:=(try simp only[hN]);omega)only[go_sem,simprocAttr]),⟨by (try simp only[hN]);omega,fun b hb hne=>by (try simp only[hN] at hb hne);simp(disch:=(try simp only[hN]);omega)only[go_sem,simprocAttr,hf1.old]⟩,by omega⟩
 ·rintro a h1 ⟨t,rfl,g0,g2,g3,⟨v3,hb3⟩,⟨v2,hb2⟩,hrd1,hf1,hn1⟩
  simp(disch:=(try simp only[hN]);omega)only[go_sem,simprocAttr,g0,g2,g3,hb3]
  refine wp_loop (fun n a h2=>∃i ver ov N,n=(numText l).length-i∧i≤(numText l).length∧a.tm.get 4=some (.bool ov)∧h2.get (h.n+1)=some ⟨ver,.cells .own 0 [.int .i64 3,.str (numText l),.int .i64 N,.int .u64 0,.int .i64 (p:Int)]⟩∧a.tm.get 36=some (.int .i64 (i:Int))∧(Fr (h.n+1) h1 h2∧h2.n=h1.n)∧ov=decide (2^63≤decVal ((numText l).take i))∧(ov=false→N=(decVal ((numText l).take i):Nat))∧a.tm.get 0=some (.ptr r 0)∧a.tm.get 2=some (.ptr h.n 0)∧a.tm.get 3=some (.ptr (h.n+1) 0)∧a.tm.get 35=some (.int .i64 ((numText l).length:Int))∧a.df=[]) ?_ (numText l).length ?_
  ·rintro n ⟨t,df⟩ h2 ⟨i,ver,ov,N,hn,hi,k4,hb,k36,⟨hf2,hn2⟩,hov,hN,k0,k2,k3,k35,hdf⟩
   simp only at k0 k2 k3 k4 k35 k36 hdf
   subst hdf
   simp(disch:=(try simp only[hN]);omega)only[go_sem,simprocAttr,k0,k2,k3,k4,k35,k36]
   (first|refine kA (fun hlt=>?_) (fun hlt=>?_)|refine kB (fun hlt=>?_) (fun hlt=>?_)|refine kC (fun hlt=>?_) (fun hlt=>?_)|refine kD (fun hlt=>?_) (fun hlt=>?_)|refine kE (fun hlt=>?_) (fun hlt=>?_)|refine kF (fun hlt=>?_) (fun hlt=>?_))
   ·have hlt':i<(numText l).length:=(by have:=of_decide_eq_true hlt;omega)
    have hti:(numText l)[i]?=some (numText l)[i]:=List.getElem?_eq_getElem hlt'
    have hdig:=numText_digits hti
    have hv:=decVal_succ hti
    generalize (numText l)[i]=c at hti hdig hv
    simp(disch:=(try simp only[hN]);omega)only[go_sem,simprocAttr,k0,k2,k3,k4,k35,k36,hb,hti]
    (first|refine kA (fun ho=>?_) (fun ho=>?_)|refine kB (fun ho=>?_) (fun ho=>?_)|refine kC (fun ho=>?_) (fun ho=>?_)|refine kD (fun ho=>?_) (fun ho=>?_)|refine kE (fun ho=>?_) (fun ho=>?_)|refine kF (fun ho=>?_) (fun ho=>?_))
    ·have hN':=hN ho
     subst hN'
     rw[ho] at hov
     have hV:decVal ((numText l).take i)<2^63:=(by have:=of_decide_eq_false (hov.symm);omega)
     generalize decVal ((numText l).take i)=V at *
     simp(disch:=(try simp only[hN]);omega)only[go_sem,simprocAttr,k0,k2,k3,k4,k35,k36,hb,hti,ho]
     refine ⟨_,?_,i+1,_,_,_,rfl,by omega,rfl,rfl,rfl,⟨hf2.upd' ..,by first|omega|(simp only[AHeap.upd_n];omega)⟩,?_⟩
     ·omega
     ·rw[hv]
      refine ⟨decide_eq_decide.2 (by omega),fun hh=>?_⟩
      have:=of_decide_eq_false hh
      simp(disch:=(try simp only[hN]);omega)only[go_sem,simprocAttr]
      omega
    ·rw[ho] at hov
     have hV:2^63≤decVal ((numText l).take i):=(by have:=of_decide_eq_true (hov.symm);omega)
     generalize decVal ((numText l).take i)=V at *
     simp(disch:=(try simp only[hN]);omega)only[go_sem,simprocAttr,k0,k2,k3,k4,k35,k36,hb,hti,ho]
     refine ⟨_,?_,i+1,_,_,_,rfl,by omega,rfl,rfl,rfl,⟨hf2.upd' ..,by first|omega|(simp only[AHeap.upd_n];omega)⟩,?_⟩
     ·omega
     ·rw[hv]
      exact ⟨(decide_eq_true (by omega)).symm,fun hh=>by cases hh⟩
   ·simp(disch:=(try simp only[hN]);omega)only[go_sem,simprocAttr]
    have hi':i=(numText l).length:=by have:=of_decide_eq_false hlt;omega
    subst hi'
    rw[List.take_length] at hov hN
    have hG2:GH h2:=hf2.gh (by have:=hG.n;omega) (hf1.gh hr0 hG)
    simp(disch:=(try simp only[hN]);omega)only[go_sem,simprocAttr,k4]
    (first|refine kA (fun ho=>?_) (fun ho=>?_)|refine kB (fun ho=>?_) (fun ho=>?_)|refine kC (fun ho=>?_) (fun ho=>?_)|refine kD (fun ho=>?_) (fun ho=>?_)|refine kE (fun ho=>?_) (fun ho=>?_)|refine kF (fun ho=>?_) (fun ho=>?_))
    ·rw[ho] at hov
     have hV:¬decVal (numText l)<2^63:=(by have:=of_decide_eq_true (hov.symm);omega)
     simp(disch:=(try simp only[hN]);omega)only[go_sem,simprocAttr,k0,k3,hG2.g1,hb]
     refine stop_spec ?_
     simp(disch:=(try simp only[hN]);omega)only[go_sem,simprocAttr]
     rw[if_neg hV] at hQ
     exact hQ _ ⟨by omega,fun b hb hne=>by rw[hf2.old _ (by omega) (by omega),hf1.old _ hb hne]⟩
    ·rw[ho] at hov
     have hV:decVal (numText l)<2^63:=(by have:=of_decide_eq_false (hov.symm);omega)
     have hN':=hN ho
     subst hN'
     have hrd2:RdL h2 r s (numRest l):=hrd1.of (hf2.old _ (by omega) (by omega))
     rw[if_pos hV] at hQ
     simp(disch:=(try simp only[hN]);omega)only[go_sem,simprocAttr,k0]
     refine alone_spec hG2 hrd2 ?_
     unfold aloneE at hQ
     by_cases hw:headB isWord (numRest l)=true
     ·rw[if_pos hw] at hQ ⊢
      simp(disch:=(try simp only[hN]);omega)only[go_sem,simprocAttr]
      exact hQ _ ⟨by omega,fun b hb hne=>by rw[hf2.old _ (by omega) (by omega),hf1.old _ hb hne]⟩
     ·rw[if_neg hw] at hQ ⊢
      simp(disch:=(try simp only[hN]);omega)only[go_sem,simprocAttr,k3,k2,hb,hf2.old,hb2]
      exact hQ _ (hrd2.of (by simp(disch:=(try simp only[hN]);omega)only[go_sem,simprocAttr])) ⟨by simp only[AHeap.upd_n];omega,fun b hb hne=>by simp(disch:=(try simp only[hN]);omega)only[go_sem,simprocAttr];rw[hf2.old _ (by omega) (by omega),hf1.old _ hb hne]⟩
  ·simp(disch:=(try simp only[hN]);omega)only[go_sem,simprocAttr,g0,g2,g3]
   exact ⟨0,_,_,_,rfl,Nat.zero_le _,rfl,hb3,rfl,Fr.refl _ _,by simp [decVal],fun _=>by simp [decVal]⟩
theorem wr_u64_nat (n:Nat):wr .u64 (n:Int)=((n % 2^64:Nat):Int):=by
 by_cases h:n≤18446744073709551615
 ·rw[wr_u64 (by omega) (by omega),Nat.mod_eq_of_lt (by omega)]
 ·have hf:fits .u64 (n:Int)=false:=by simp [fits];omega
  unfold wr
  rw[hf]
  simp [IntKind.wrap,IntKind.bits,IntKind.signed]
theorem shl_u64 (n:Nat):binA .shl (.int .u64 (n:Int)) (.int .u64 4)=some (.int .u64 ((16*n % 2^64:Nat):Int)):=by
 have e:((n:Int)*2^(min (4:Int).toNat IntKind.u64.bits))=((16*n:Nat):Int):=by
  have:(2:Int)^(min (4:Int).toNat IntKind.u64.bits)=16:=by decide
  rw[this];omega
 simp only[binA,shiftA]
 rw[e,wr_u64_nat]
 rfl
theorem or_u64 {a b:Nat} (ha:a<2^64) (hb:b<2^64):binA .or (.int .u64 (a:Int)) (.int .u64 (b:Int))=some (.int .u64 ((a ||| b:Nat):Int)):=by
 have hab:a ||| b<2^64:=Nat.or_lt_two_pow ha hb
 simp [binA,intBin,IntKind.wrap,IntKind.bits,IntKind.signed,Nat.mod_eq_of_lt ha,Nat.mod_eq_of_lt hb]
 have e:(BitVec.ofNat 64 a ||| BitVec.ofNat 64 b:BitVec 64).toNat=a ||| b:=by rw[BitVec.toNat_or,BitVec.toNat_ofNat,BitVec.toNat_ofNat,Nat.mod_eq_of_lt ha,Nat.mod_eq_of_lt hb]
 show (((BitVec.ofNat 64 a ||| BitVec.ofNat 64 b:BitVec 64).toNat:Nat):Int) % 18446744073709551616=_
 rw[e]
 generalize a ||| b=x at hab
 omega
theorem findB_lt (c:Nat):∀(l:Bs) (i:Nat),findB c l i<i+l.length
 | [],i=>by simp only[findB,List.length_nil];omega
 | x::r,i=>by
  have:=findB_lt c r (i+1)
  simp only[findB,List.length_cons]
  cases x.toNat.beq c<;>simp only[cond_true,cond_false]<;>omega
theorem hexVal_succ {t:Bs} {i:Nat} {c:UInt8} (h:t[i]?=some c):hexVal (t.take (i+1))=(16*hexVal (t.take i) % 2^64) ||| (findB c.toNat hexs 0).toNat:=by
 have e:t.take (i+1)=t.take i++[c]:=by
  obtain ⟨hl,hc⟩:=List.getElem?_eq_some_iff.1 h
  rw[List.take_succ_eq_append_getElem hl,hc]
 simp only[hexVal,e,List.foldl_append,List.foldl_cons,List.foldl_nil]
theorem hexVal_lt':∀(t:Bs) (v:Nat),v<2^64→t.foldl (fun v c=>(16*v % 2^64) ||| (findB c.toNat hexs 0).toNat) v<2^64
 | [],v,hv=>hv
 | c::t,v,_=>by
  simp only[List.foldl_cons]
  refine hexVal_lt' t _ (Nat.or_lt_two_pow (Nat.mod_lt _ (by decide)) ?_)
  have:=findB_lt c.toNat hexs 0
  simp only[hexs,List.length_cons,List.length_nil] at this ⊢
  omega
theorem hexVal_lt (t:Bs):hexVal t<2^64:=hexVal_lt' t 0 (by decide)
theorem isHex_u64 {c:UInt8} (h:isHex c=true):∃k:Nat,findB c.toNat hexs 0=(k:Int)∧k<16:=by
 have h1:=of_decide_eq_true h
 have h2:=findB_lt c.toNat hexs 0
 simp only[hexs,List.length_cons,List.length_nil] at h1 h2 ⊢
 exact ⟨_,(Int.toNat_of_nonneg h1).symm,by omega⟩
def fltD (l:Bs):Bs:=(l.drop 1).take 16
theorem fltTok_eq (N:Nat) (l:Bs):fltTok N l=if (fltD l).length=16∧(fltD l).all isHex=true then aloneE N (l.drop 17) ⟨4,l.take 17,0,hexVal (fltD l),N-l.length⟩ else .error (2,N-l.length):=rfl
theorem float_spec {r:Nat} {s l:Bs} {h:AHeap} (hG:GH h) (hr0:21+17≤r) (hrn:r<h.n) (hbig:s.length<2^62) (hrd:RdL h r s l) (hne:l≠[]) {Q:QR} (hQ:TokQ r s h Q (fltTok s.length l)):WF F 121 [.ptr r 0] h Q:=by
 rw[fltTok_eq] at hQ
 obtain ⟨p,ver,hp,hpl,hr,hd,hc⟩:=hrd.pos
 rw[hp] at hQ
 have hl1:1≤l.length:=by cases l with|nil=>exact absurd rfl hne|cons c l=>simp
 refine WF.code F121 rfl ?_
 simp(disch:=(try simp only[hN]);omega)only[go_sem,simprocAttr,hr]
 refine wp_loop (fun n a h2=>∃i ver ver2,n=16-i∧i≤16∧h2.get (h.n+1)=some ⟨ver,.cells .own 0 [.int .i64 4,.str [],.int .i64 0,.int .u64 (hexVal ((fltD l).take i):Int),.int .i64 (p:Int)]⟩∧h2.get r=some ⟨ver2,.cells .own 0 [.str s,.int .i64 ((p+1+i:Nat):Int)]⟩∧a.tm.get 16=some (.int .i64 (i:Int))∧(p+1+i≤s.length∧((fltD l).take i).length=i∧((fltD l).take i).all isHex=true)∧(Fr r h h2∧h.n+2=h2.n)∧h2.get h.n=some ⟨0,.cells .own 0 [.int .i64 0,.str [],.int .i64 0,.int .u64 0,.int .i64 0]⟩∧a.tm.get 0=some (.ptr r 0)∧a.tm.get 2=some (.ptr h.n 0)∧a.tm.get 3=some (.ptr (h.n+1) 0)∧a.df=[]) ?_ 16 ?_
 ·rintro n ⟨t,df⟩ h2 ⟨i,v1,v2,hn,hi,hb,hr2,k16,⟨hps,hlen,hall⟩,⟨hf,hn2⟩,hb2,k0,k2,k3,hdf⟩
  simp only at k0 k2 k3 k16 hdf
  subst hdf
  have hG2:GH h2:=hf.gh hr0 hG
  simp(disch:=(try simp only[hN]);omega)only[go_sem,simprocAttr,k16]
  (first|refine kA (fun hlt=>?_) (fun hlt=>?_)|refine kB (fun hlt=>?_) (fun hlt=>?_)|refine kC (fun hlt=>?_) (fun hlt=>?_)|refine kD (fun hlt=>?_) (fun hlt=>?_)|refine kE (fun hlt=>?_) (fun hlt=>?_)|refine kF (fun hlt=>?_) (fun hlt=>?_))
  ·have hlt':i<16:=(by have:=of_decide_eq_true hlt;omega)
   simp(disch:=(try simp only[hN]);omega)only[go_sem,simprocAttr,k0,hr2,k16]
   (first|refine kA (fun hge=>?_) (fun hge=>?_)|refine kB (fun hge=>?_) (fun hge=>?_)|refine kC (fun hge=>?_) (fun hge=>?_)|refine kD (fun hge=>?_) (fun hge=>?_)|refine kE (fun hge=>?_) (fun hge=>?_)|refine kF (fun hge=>?_) (fun hge=>?_))
   ·have hge':p+1+i<s.length:=(by have:=of_decide_eq_false hge;omega)
    have hsi:s[p+1+i]?=some s[p+1+i]:=List.getElem?_eq_getElem hge'
    have hdi:(fltD l)[i]?=some s[p+1+i]:=by
     rw[←hsi,←hd]
     simp only[fltD,List.getElem?_take,if_pos hlt',List.getElem?_drop]
     congr 1;omega
    generalize s[p+1+i]=c at hsi hdi
    simp(disch:=(try simp only[hN]);omega)only[go_sem,simprocAttr,hge,k0,hr2,hsi]
    refine indexByte (s:=hexs) ?_
    simp(disch:=(try simp only[hN]);omega)only[go_sem,simprocAttr,hge]
    (first|refine kA (fun hh=>?_) (fun hh=>?_)|refine kB (fun hh=>?_) (fun hh=>?_)|refine kC (fun hh=>?_) (fun hh=>?_)|refine kD (fun hh=>?_) (fun hh=>?_)|refine kE (fun hh=>?_) (fun hh=>?_)|refine kF (fun hh=>?_) (fun hh=>?_))
    ·simp(disch:=(try simp only[hN]);omega)only[go_sem,simprocAttr,k0,k3,hb,hG2.g2]
     refine stop_spec ?_
     simp(disch:=(try simp only[hN]);omega)only[go_sem,simprocAttr]
     have hbad:¬((fltD l).length=16∧(fltD l).all isHex=true):=by
      rintro ⟨_,h2⟩
      have h3:=List.all_eq_true.1 h2 c (List.mem_of_getElem? hdi)
      have:=of_decide_eq_true h3
      have:=of_decide_eq_true hh
      omega
     rw[if_neg hbad] at hQ
     exact hQ _ hf
    ·have hx:isHex c=true:=decide_eq_true (by have:=of_decide_eq_false hh;omega)
     obtain ⟨k,hk,hk16⟩:=isHex_u64 hx
     have hv:=hexVal_succ hdi
     have hvl:=hexVal_lt ((fltD l).take i)
     simp(disch:=(try simp only[hN]);omega)only[go_sem,simprocAttr,k0,k3,hb,hr2,hsi,shl_u64]
     refine indexByte (s:=hexs) ?_
     rw[hk]
     simp(disch:=(try simp only[hN]);omega)only[go_sem,simprocAttr,k0,k2,k3,k16,hb,hb2,hr2,or_u64 (Nat.mod_lt _ (by decide:0<2^64)) (show k<2^64 by omega)]
     have hli:i<(fltD l).length:=(List.getElem?_eq_some_iff.1 hdi).1
     have htk:(fltD l).take (i+1)=(fltD l).take i++[c]:=by rw[List.take_succ_eq_append_getElem hli,(List.getElem?_eq_some_iff.1 hdi).2]
     refine ⟨_,?_,i+1,_,_,rfl,by omega,by rw[hv,hk];rfl,rfl,rfl,⟨by omega,by rw[List.length_take];omega,?_⟩,?_⟩
     ·omega
     ·rw[htk,List.all_append,hall];simp [hx]
     ·exact ⟨⟨by (try simp only[hN]);omega,fun b hb hne=>by (try simp only[hN] at hb hne);simp(disch:=(try simp only[hN]);omega)only[go_sem,simprocAttr,hf.old]⟩,by omega⟩
   ·have hge':s.length≤p+1+i:=(by have:=of_decide_eq_true hge;omega)
    simp(disch:=(try simp only[hN]);omega)only[go_sem,simprocAttr,hge,k0,k3,hb,hG2.g2]
    refine stop_spec ?_
    simp(disch:=(try simp only[hN]);omega)only[go_sem,simprocAttr]
    have hbad:¬((fltD l).length=16∧(fltD l).all isHex=true):=by
     rintro ⟨h1,_⟩
     simp only[fltD,List.length_take,List.length_drop] at h1
     omega
    rw[if_neg hbad] at hQ
    exact hQ _ hf
  ·have hi16:i=16:=by have:=of_decide_eq_false hlt;omega
   subst hi16
   have ht16:(fltD l).take 16=fltD l:=by simp [fltD,List.take_take]
   rw[ht16] at hlen hall hb
   have hgood:(fltD l).length=16∧(fltD l).all isHex=true:=⟨hlen,hall⟩
   rw[if_pos hgood] at hQ
   have hrd2:RdL h2 r s (l.drop 17):=⟨(List.drop_suffix 17 l).trans hrd.1,v2,by rw[hr2];simp only[List.length_drop];congr 6;omega⟩
   simp(disch:=(try simp only[hN]);omega)only[go_sem,simprocAttr,k0]
   refine alone_spec hG2 hrd2 ?_
   unfold aloneE at hQ
   by_cases hw:headB isWord (l.drop 17)=true
   ·rw[if_pos hw] at hQ ⊢
    simp(disch:=(try simp only[hN]);omega)only[go_sem,simprocAttr]
    exact hQ _ hf
   ·rw[if_neg hw] at hQ ⊢
    have hsl:bnd (some (.int .i64 (p:Int))) 0 (p+1+16)=some p:=bnd_num (by omega)
    have htx:(s.drop p).take (p+1+16-p)=l.take 17:=by rw[hd];congr 1;omega
    simp(disch:=(try simp only[hN]);omega)only[go_sem,simprocAttr,k0,k3,k2,hb,hr2,hsl,htx,hb2]
    exact hQ _ (hrd2.of (by simp(disch:=(try simp only[hN]);omega)only[go_sem,simprocAttr])) ⟨by (simp only[AHeap.alloc_n,AHeap.upd_n];omega),fun b hb hne=>by simp(disch:=(try simp only[hN]);omega)only[go_sem,simprocAttr,hf.old]⟩
 ·simp(disch:=(try simp only[hN]);omega)only[go_sem,simprocAttr]
  exact ⟨0,1,ver+1,rfl,Nat.zero_le _,rfl,rfl,rfl,⟨by omega,rfl,rfl⟩,⟨by (try simp only[hN]);omega,fun b hb hne=>by (try simp only[hN] at hb hne);simp(disch:=(try simp only[hN]);omega)only[go_sem,simprocAttr]⟩⟩
theorem mark_spec {r:Nat} {s l:Bs} {h:AHeap} (hG:GH h) (hr0:21+17≤r) (hrn:r<h.n) (hbig:s.length<2^62) (hrd:RdL h r s l) (hne:l≠[]) {Q:QR} (hQ:TokQ r s h Q (markTok s.length l)):WF F 122 [.ptr r 0] h Q:=by
 obtain ⟨p,ver,hp,hpl,hr,hd,hc⟩:=hrd.pos
 unfold markTok at hQ
 rw[hp] at hQ
 obtain ⟨c,l0,hcl⟩:∃c l0,l=c::l0:=by cases l with|nil=>exact absurd rfl hne|cons c l=>exact ⟨c,l,rfl⟩
 have hll:l.length=l0.length+1:=by rw[hcl];rfl
 rw[show l[0]?=some c by rw[hcl];rfl] at hc
 refine WF.code F122 rfl ?_
 simp(disch:=(try simp only[hN]);omega)only[go_sem,simprocAttr]
 refine wp_loop (fun n a h2=>∃i:Nat,n=7-i∧i≤7∧(marks2.take i).any (hasP l)=false∧h2=h.alloc (.cells .own 0 [.int .i64 0,.str [],.int .i64 0,.int .u64 0,.int .i64 0])∧a.tm.get 6=some (.int .i64 (i:Int))∧a.tm.get 5=some (.agg (marks2.map .str))∧a.tm.get 0=some (.ptr r 0)∧a.tm.get 2=some (.ptr h.n 0)∧a.df=[]) ?_ 7 ?_
 ·rintro n ⟨t,df⟩ h2 ⟨i,hn,hi,hno,rfl,k6,k5,k0,k2,hdf⟩
  simp only at k0 k2 k5 k6 hdf
  subst hdf
  simp(disch:=(try simp only[hN]);omega)only[go_sem,simprocAttr,k6]
  (first|refine kA (fun hlt=>?_) (fun hlt=>?_)|refine kB (fun hlt=>?_) (fun hlt=>?_)|refine kC (fun hlt=>?_) (fun hlt=>?_)|refine kD (fun hlt=>?_) (fun hlt=>?_)|refine kE (fun hlt=>?_) (fun hlt=>?_)|refine kF (fun hlt=>?_) (fun hlt=>?_))
  ·have hlt':i<7:=(by have:=of_decide_eq_true hlt;omega)
   have h7:((i:Int)<7)=True:=by simp only[eq_iff_iff,iff_true];omega
   have hml:marks2.length=7:=rfl
   have hm:(marks2.map AV.str)[i]?=some (.str (marks2[i]'(by omega))):=by rw[List.getElem?_map,List.getElem?_eq_getElem (by omega)];rfl
   have hmt:marks2.take (i+1)=marks2.take i++[marks2[i]'(by omega)]:=by rw[List.take_succ_eq_append_getElem]
   have hmm:marks2[i]'(by omega)∈marks2:=List.getElem_mem _
   generalize marks2[i]'(by omega)=m at hm hmt hmm
   have hm2:m.length=2:=by
    have:∀m∈marks2,m.length=2:=by decide
    exact this m hmm
   have hsl:bnd (some (.int .i64 (p:Int))) 0 s.length=some p:=bnd_num (by omega)
   have htk:(s.drop p).take (s.length-p)=l:=by rw[hd];exact List.take_of_length_le (by omega)
   simp(disch:=(try simp only[hN]);omega)only[go_sem,simprocAttr,k5,k6,k0,h7,Nat.mul_one,hm,hr,hsl,htk]
   refine hasPrefix ?_
   simp(disch:=(try simp only[hN]);omega)only[go_sem,simprocAttr]
   (first|refine kA (fun hh=>?_) (fun hh=>?_)|refine kB (fun hh=>?_) (fun hh=>?_)|refine kC (fun hh=>?_) (fun hh=>?_)|refine kD (fun hh=>?_) (fun hh=>?_)|refine kE (fun hh=>?_) (fun hh=>?_)|refine kF (fun hh=>?_) (fun hh=>?_))
   ·have hany:marks2.any (hasP l)=true:=List.any_eq_true.2 ⟨m,hmm,hh⟩
    have hlm:l.take 2=m:=by have:=beq_iff_eq.1 hh;rw[hm2] at this;exact this
    have hl2:2≤l.length:=by have:=congrArg List.length hlm;rw[List.length_take,hm2] at this;omega
    rw[if_pos hany] at hQ
    simp(disch:=(try simp only[hN]);omega)only[go_sem,simprocAttr,k0,k2,hr]
    rw[←hlm]
    have e:(p:Int)+2-2=p:=by omega
    rw[e]
    exact hQ _ (RdL.mk' (v:=ver+1) (q:=p+2) ((List.drop_suffix 2 l).trans hrd.1) (by rw[List.length_drop];omega) (by (first|(simp(disch:=(try simp only[hN]);omega)only[go_sem,simprocAttr];done)|(simp(disch:=(try simp only[hN]);omega)only[go_sem,simprocAttr];rfl)))) ⟨by (try simp only[hN]);omega,fun b hb hne=>by (try simp only[hN] at hb hne);simp(disch:=(try simp only[hN]);omega)only[go_sem,simprocAttr]⟩
   ·simp(disch:=(try simp only[hN]);omega)only[go_sem,simprocAttr,k0,k2,k5,k6]
    refine ⟨_,?_,i+1,rfl,by omega,?_,rfl⟩
    ·omega
    ·rw[hmt,List.any_append,hno];simp [hh]
  ·have hi7:i=7:=by have:=of_decide_eq_false hlt;omega
   subst hi7
   have hany:marks2.any (hasP l)=false:=hno
   rw[hcl] at hQ hany
   simp only[hany,Bool.false_eq_true,if_false] at hQ
   simp(disch:=(try simp only[hN]);omega)only[go_sem,simprocAttr,k0,k2,hr,hc]
   refine indexByte (s:=marks1) ?_
   simp(disch:=(try simp only[hN]);omega)only[go_sem,simprocAttr]
   (first|refine kA (fun hh=>?_) (fun hh=>?_)|refine kB (fun hh=>?_) (fun hh=>?_)|refine kC (fun hh=>?_) (fun hh=>?_)|refine kD (fun hh=>?_) (fun hh=>?_)|refine kE (fun hh=>?_) (fun hh=>?_)|refine kF (fun hh=>?_) (fun hh=>?_))
   ·have hh':¬0≤findB c.toNat marks1 0:=(by have:=of_decide_eq_true hh;omega)
    have hG1:=hG.alloc (.cells .own 0 [.int .i64 0,.str [],.int .i64 0,.int .u64 0,.int .i64 0])
    simp(disch:=(try simp only[hN]);omega)only[go_sem,simprocAttr,k0,hr,hG1.g2]
    refine stop_spec ?_
    simp(disch:=(try simp only[hN]);omega)only[go_sem,simprocAttr]
    rw[if_neg hh'] at hQ
    exact hQ _ ⟨by (try simp only[hN]);omega,fun b hb hne=>by (try simp only[hN] at hb hne);simp(disch:=(try simp only[hN]);omega)only[go_sem,simprocAttr]⟩
   ·have hh':0≤findB c.toNat marks1 0:=(by have:=of_decide_eq_false hh;omega)
    have hsl:bnd (some (.int .i64 (p:Int))) 0 (p+1)=some p:=bnd_num (by omega)
    have hsl2:bnd (some (.int .i64 ((p:Int)+1))) s.length s.length=some (p+1):=bnd_num (i:=p+1) (by omega)
    have e1:(p:Int)+1-1=p:=by omega
    have htx:(s.drop p).take (p+1-p)=[c]:=by rw[hd,hcl,show p+1-p=1 by omega];rfl
    simp(disch:=(try simp only[hN]);omega)only[go_sem,simprocAttr,k0,k2,hr,e1,hsl2,hsl,htx]
    rw[if_pos hh'] at hQ
    exact hQ _ (RdL.mk' (v:=ver+1) (q:=p+1) ((List.suffix_cons c l0).trans (hcl ▸ hrd.1)) (by omega) (by (first|(simp(disch:=(try simp only[hN]);omega)only[go_sem,simprocAttr];done)|(simp(disch:=(try simp only[hN]);omega)only[go_sem,simprocAttr];rfl)))) ⟨by (try simp only[hN]);omega,fun b hb hne=>by (try simp only[hN] at hb hne);simp(disch:=(try simp only[hN]);omega)only[go_sem,simprocAttr]⟩
 ·simp(disch:=(try simp only[hN]);omega)only[go_sem,simprocAttr]
  exact ⟨0,rfl,Nat.zero_le _,rfl,rfl,rfl⟩
theorem next_spec {r:Nat} {s l:Bs} {h:AHeap} (hG:GH h) (hr0:21+17≤r) (hrn:r<h.n) (hbig:s.length<2^62) (hrd:RdL h r s l) (hne:l≠[]) {Q:QR} (hQ:TokQ r s h Q (nextTok s.length l)):WF F 73 [.ptr r 0] h Q:=by
 obtain ⟨p,ver,hp,hpl,hr,hd,hc⟩:=hrd.pos
 obtain ⟨c,l0,hcl⟩:∃c l0,l=c::l0:=by cases l with|nil=>exact absurd rfl hne|cons c l=>exact ⟨c,l,rfl⟩
 rw[show l[0]?=some c by rw[hcl];rfl] at hc
 have hnx:nextTok s.length l=if isLetter c then wordTok s.length l else if isDigit c then numTok s.length l else if c.toNat=35 then fltTok s.length l else markTok s.length l:=by rw[hcl];rfl
 rw[hnx] at hQ
 have hl:headB isLetter l=isLetter c:=by rw[hcl];rfl
 have hdg:headB isDigit l=isDigit c:=by rw[hcl];rfl
 have hG1:=hG.alloc (.cells .own 0 [.int .i64 0,.str [],.int .i64 0,.int .u64 0,.int .i64 0])
 refine WF.code F73 rfl ?_
 simp(disch:=(try simp only[hN]);omega)only[go_sem,simprocAttr]
 have hrd1:=hrd.of (h':=h.alloc (.cells .own 0 [.int .i64 0,.str [],.int .i64 0,.int .u64 0,.int .i64 0])) (by simp(disch:=(try simp only[hN]);omega)only[go_sem,simprocAttr])
 refine hereL letter_spec hrd1 ?_
 rw[hl]
 simp(disch:=(try simp only[hN]);omega)only[go_sem,simprocAttr]
 (first|refine kA (fun h1=>?_) (fun h1=>?_)|refine kB (fun h1=>?_) (fun h1=>?_)|refine kC (fun h1=>?_) (fun h1=>?_)|refine kD (fun h1=>?_) (fun h1=>?_)|refine kE (fun h1=>?_) (fun h1=>?_)|refine kF (fun h1=>?_) (fun h1=>?_))
 ·rw[if_pos h1] at hQ
  simp(disch:=(try simp only[hN]);omega)only[go_sem,simprocAttr]
  refine word_spec hG1 hr0 (by simp only[hN];omega) hbig hrd1 ?_
  cases hw:wordTok s.length l with
  | ok x=>
   rw[hw] at hQ
   intro h2 hrd2 hf2
   have hn2:=hf2.n;try simp only[hN] at hn2
   simp(disch:=(try simp only[hN]);omega)only[go_sem,simprocAttr,tokAV,hf2.old]
   exact hQ _ (hrd2.of (by simp(disch:=(try simp only[hN]);omega)only[go_sem,simprocAttr])) ⟨by (try simp only[hN]);omega,fun b hb hne=>by (try simp only[hN] at hb hne);simp(disch:=(try simp only[hN]);omega)only[go_sem,simprocAttr,hf2.old]⟩
  | error x=>
   obtain ⟨e9,q9⟩:=x
   rw[hw] at hQ
   intro h2 hf2
   have hn2:=hf2.n;try simp only[hN] at hn2
   simp(disch:=(try simp only[hN]);omega)only[go_sem,simprocAttr]
   exact hQ _ ⟨by (try simp only[hN]);omega,fun b hb hne=>by (try simp only[hN] at hb hne);simp(disch:=(try simp only[hN]);omega)only[go_sem,simprocAttr,hf2.old]⟩
 ·rw[h1] at hQ
  simp only[Bool.false_eq_true,if_false] at hQ
  simp(disch:=(try simp only[hN]);omega)only[go_sem,simprocAttr]
  refine hereL digit_spec hrd1 ?_
  rw[hdg]
  simp(disch:=(try simp only[hN]);omega)only[go_sem,simprocAttr]
  (first|refine kA (fun h3=>?_) (fun h3=>?_)|refine kB (fun h3=>?_) (fun h3=>?_)|refine kC (fun h3=>?_) (fun h3=>?_)|refine kD (fun h3=>?_) (fun h3=>?_)|refine kE (fun h3=>?_) (fun h3=>?_)|refine kF (fun h3=>?_) (fun h3=>?_))
  ·rw[if_pos h3] at hQ
   simp(disch:=(try simp only[hN]);omega)only[go_sem,simprocAttr]
   refine number_spec hG1 hr0 (by simp only[hN];omega) hbig hrd1 hne ?_
   cases hw:numTok s.length l with
   | ok x=>
    rw[hw] at hQ
    intro h2 hrd2 hf2
    have hn2:=hf2.n;try simp only[hN] at hn2
    simp(disch:=(try simp only[hN]);omega)only[go_sem,simprocAttr,tokAV,hf2.old]
    exact hQ _ (hrd2.of (by simp(disch:=(try simp only[hN]);omega)only[go_sem,simprocAttr])) ⟨by (try simp only[hN]);omega,fun b hb hne=>by (try simp only[hN] at hb hne);simp(disch:=(try simp only[hN]);omega)only[go_sem,simprocAttr,hf2.old]⟩
   | error x=>
    obtain ⟨e9,q9⟩:=x
    rw[hw] at hQ
    intro h2 hf2
    have hn2:=hf2.n;try simp only[hN] at hn2
    simp(disch:=(try simp only[hN]);omega)only[go_sem,simprocAttr]
    exact hQ _ ⟨by (try simp only[hN]);omega,fun b hb hne=>by (try simp only[hN] at hb hne);simp(disch:=(try simp only[hN]);omega)only[go_sem,simprocAttr,hf2.old]⟩
  ·rw[h3] at hQ
   simp only[Bool.false_eq_true,if_false] at hQ
   simp(disch:=(try simp only[hN]);omega)only[go_sem,simprocAttr,hr,hc]
   (first|refine kA (fun h4=>?_) (fun h4=>?_)|refine kB (fun h4=>?_) (fun h4=>?_)|refine kC (fun h4=>?_) (fun h4=>?_)|refine kD (fun h4=>?_) (fun h4=>?_)|refine kE (fun h4=>?_) (fun h4=>?_)|refine kF (fun h4=>?_) (fun h4=>?_))
   ·have h4':c.toNat=35:=by
     have:(c.toNat:Int)=35:=by simpa using h4
     omega
    rw[if_pos h4'] at hQ
    simp(disch:=(try simp only[hN]);omega)only[go_sem,simprocAttr]
    refine float_spec hG1 hr0 (by simp only[hN];omega) hbig hrd1 hne ?_
    cases hw:fltTok s.length l with
    | ok x=>
     rw[hw] at hQ
     intro h2 hrd2 hf2
     have hn2:=hf2.n;try simp only[hN] at hn2
     simp(disch:=(try simp only[hN]);omega)only[go_sem,simprocAttr,tokAV,hf2.old]
     exact hQ _ (hrd2.of (by simp(disch:=(try simp only[hN]);omega)only[go_sem,simprocAttr])) ⟨by (try simp only[hN]);omega,fun b hb hne=>by (try simp only[hN] at hb hne);simp(disch:=(try simp only[hN]);omega)only[go_sem,simprocAttr,hf2.old]⟩
    | error x=>
     obtain ⟨e9,q9⟩:=x
     rw[hw] at hQ
     intro h2 hf2
     have hn2:=hf2.n;try simp only[hN] at hn2
     simp(disch:=(try simp only[hN]);omega)only[go_sem,simprocAttr]
     exact hQ _ ⟨by (try simp only[hN]);omega,fun b hb hne=>by (try simp only[hN] at hb hne);simp(disch:=(try simp only[hN]);omega)only[go_sem,simprocAttr,hf2.old]⟩
   ·have h4':¬c.toNat=35:=by
     have:¬(c.toNat:Int)=35:=by simpa using h4
     omega
    rw[if_neg h4'] at hQ
    simp(disch:=(try simp only[hN]);omega)only[go_sem,simprocAttr]
    refine mark_spec hG1 hr0 (by simp only[hN];omega) hbig hrd1 hne ?_
    cases hw:markTok s.length l with
    | ok x=>
     rw[hw] at hQ
     intro h2 hrd2 hf2
     have hn2:=hf2.n;try simp only[hN] at hn2
     simp(disch:=(try simp only[hN]);omega)only[go_sem,simprocAttr,tokAV,hf2.old]
     exact hQ _ (hrd2.of (by simp(disch:=(try simp only[hN]);omega)only[go_sem,simprocAttr])) ⟨by (try simp only[hN]);omega,fun b hb hne=>by (try simp only[hN] at hb hne);simp(disch:=(try simp only[hN]);omega)only[go_sem,simprocAttr,hf2.old]⟩
    | error x=>
     obtain ⟨e9,q9⟩:=x
     rw[hw] at hQ
     intro h2 hf2
     have hn2:=hf2.n;try simp only[hN] at hn2
     simp(disch:=(try simp only[hN]);omega)only[go_sem,simprocAttr]
     exact hQ _ ⟨by (try simp only[hN]);omega,fun b hb hne=>by (try simp only[hN] at hb hne);simp(disch:=(try simp only[hN]);omega)only[go_sem,simprocAttr,hf2.old]⟩
theorem skip1_suf (l:Bs):skip1 l <:+ l:=by
 unfold skip1
 simp only
 split
 ·exact (dropWhile_suf _ _).trans (dropWhile_suf _ _)
 ·exact dropWhile_suf _ _
theorem skipL_fuel:∀(n:Nat) (l:Bs),l.length≤n→skipL n l=skip l:=by
 have key:∀(n m:Nat) (l:Bs),l.length≤n→l.length≤m→skipL n l=skipL m l:=by
  intro n
  induction n with
  | zero=>
   intro m l h1 h2
   have hl:l=[]:=List.length_eq_zero_iff.1 (by omega)
   subst hl
   cases m with
   | zero=>rfl
   | succ m=>simp [skipL,skip1,hasP]
  | succ n ih=>
   intro m l h1 h2
   cases m with
   | zero=>
    have hl:l=[]:=List.length_eq_zero_iff.1 (by omega)
    subst hl
    simp [skipL,skip1,hasP]
   | succ m=>
    simp only[skipL]
    split
    ·rfl
    ·rename_i hne
     have:=(skip1_suf l).length_le
     exact ih m _ (by omega) (by omega)
 intro n l h
 exact key n l.length l h (Nat.le_refl _)
theorem skip_eq (l:Bs):skip l=if (skip1 l).length=l.length then l else skip (skip1 l):=by
 rw[←skipL_fuel (l.length+1) l (by omega)]
 simp only[skipL]
 split
 ·rfl
 ·exact skipL_fuel _ _ (skip1_suf l).length_le
theorem skip_suf (l:Bs):skip l <:+ l:=by
 suffices ∀n (l:Bs),l.length≤n→skip l <:+ l from this _ l (Nat.le_refl _)
 intro n
 induction n with
 | zero=>
  intro l h
  have hl:l=[]:=List.length_eq_zero_iff.1 (by omega)
  subst hl
  simp [skip,skipL]
 | succ n ih=>
  intro l h
  rw[skip_eq]
  split
  ·exact List.suffix_refl _
  ·have:=(skip1_suf l).length_le
   exact (ih _ (by omega)).trans (skip1_suf l)
theorem skip_spec {r:Nat} {s l:Bs} {h:AHeap} (hbig:s.length<2^62) (hrd:RdL h r s l) {Q:QR} (hQ:∀h',RdL h' r s (skip l)→Fr r h h'→Q (.ret (.tuple [])) h'):WF F 71 [.ptr r 0] h Q:=by
 refine WF.code F71 rfl ?_
 simp(disch:=(try simp only[hN]);omega)only[go_sem,simprocAttr]
 refine wp_loop (fun n a h1=>∃l1,n=l1.length∧RdL h1 r s l1∧Fr r h h1∧skip l1=skip l∧a.tm.get 0=some (.ptr r 0)∧a.df=[]) ?_ l.length ⟨l,rfl,hrd,Fr.refl _ _,rfl,by simp(disch:=(try simp only[hN]);omega)only[go_sem,simprocAttr],rfl⟩
 rintro n ⟨t,df⟩ h1 ⟨l1,hn,hrd1,hf1,hsk,k0,hdf⟩
 simp only at k0 hdf
 subst hdf
 obtain ⟨p,ver,hp,hpl,hr,hd,hc⟩:=hrd1.pos
 simp(disch:=(try simp only[hN]);omega)only[go_sem,simprocAttr,k0,hr]
 refine whileL hbig blank_spec hrd1 ?_
 intro h2 hrd2 hf2
 obtain ⟨p2,ver2,hp2,hpl2,hr2,hd2,hc2⟩:=hrd2.pos
 have hsl:bnd (some (.int .i64 (p2:Int))) 0 s.length=some p2:=bnd_num (by omega)
 have htk:(s.drop p2).take (s.length-p2)=l1.dropWhile isBlank:=by rw[hd2];exact List.take_of_length_le (by omega)
 simp(disch:=(try simp only[hN]);omega)only[go_sem,simprocAttr,k0,hr2,hsl,htk]
 refine hasPrefix ?_
 simp(disch:=(try simp only[hN]);omega)only[go_sem,simprocAttr]
 refine cond_cut (fun a h'=>RdL h' r s (skip1 l1)∧Fr r h1 h'∧a.tm.get 0=some (.ptr r 0)∧a.tm.get 2=some (.int .i64 (p:Int))∧a.df=[]) ?_ ?_
 ·(first|refine kA (fun hh=>?_) (fun hh=>?_)|refine kB (fun hh=>?_) (fun hh=>?_)|refine kC (fun hh=>?_) (fun hh=>?_)|refine kD (fun hh=>?_) (fun hh=>?_)|refine kE (fun hh=>?_) (fun hh=>?_)|refine kF (fun hh=>?_) (fun hh=>?_))
  ·simp(disch:=(try simp only[hN]);omega)only[go_sem,simprocAttr,k0]
   refine whileL hbig notNL_spec hrd2 ?_
   intro h3 hrd3 hf3
   simp(disch:=(try simp only[hN]);omega)only[go_sem,simprocAttr,k0]
   exact ⟨by simpa only[skip1,hh,if_true] using hrd3,hf2.trans hf3⟩
  ·simp(disch:=(try simp only[hN]);omega)only[go_sem,simprocAttr,k0]
   exact ⟨by simpa only[skip1,hh,if_false,Bool.false_eq_true] using hrd2,hf2⟩
 ·rintro ⟨t,df⟩ h3 ⟨hrd3,hf3,g0,g2,hdf⟩
  simp only at g0 g2 hdf
  subst hdf
  obtain ⟨p3,ver3,hp3,hpl3,hr3,hd3,hc3⟩:=hrd3.pos
  have hle:=(skip1_suf l1).length_le
  simp(disch:=(try simp only[hN]);omega)only[go_sem,simprocAttr,g0,g2,hr3]
  rw[skip_eq] at hsk
  (first|refine kA (fun he=>?_) (fun he=>?_)|refine kB (fun he=>?_) (fun he=>?_)|refine kC (fun he=>?_) (fun he=>?_)|refine kD (fun he=>?_) (fun he=>?_)|refine kE (fun he=>?_) (fun he=>?_)|refine kF (fun he=>?_) (fun he=>?_))
  ·have he':p3=p:=by
    have:(p3:Int)=p:=by simpa using he
    omega
   rw[if_pos (by omega)] at hsk
   simp(disch:=(try simp only[hN]);omega)only[go_sem,simprocAttr]
   have hl:skip1 l1=l1:=(skip1_suf l1).eq_of_length (by omega)
   rw[hl] at hrd3
   refine hQ h3 (hsk ▸ hrd3) (hf1.trans hf3)
  ·have he':¬p3=p:=by
    have:¬(p3:Int)=p:=by simpa using he
    omega
   rw[if_neg (by omega)] at hsk
   simp(disch:=(try simp only[hN]);omega)only[go_sem,simprocAttr,g0]
   exact ⟨_,by omega,skip1 l1,rfl,hrd3,hf1.trans hf3,hsk⟩
def Sl (es lo:Nat) (h:AHeap) (v:AV) (n:Nat) (cs:List AV):Prop:=
 cs.length=n*es∧((n=0∧v=.nilSlice)∨(0<n∧∃b ver,v=.slice b 0 n n false∧lo≤b∧b<h.n∧h.get b=some ⟨ver,.cells .own es cs⟩))
theorem Sl.nil {es lo:Nat} {h:AHeap}:Sl es lo h .nilSlice 0 []:=⟨by simp,.inl ⟨rfl,rfl⟩⟩
theorem Sl.fr {es lo r n:Nat} {h h':AHeap} {v:AV} {cs:List AV} (s:Sl es lo h v n cs) (f:Fr r h h') (hr:r<lo∨h.n≤r):Sl es lo h' v n cs:=by
 obtain ⟨hl,s⟩:=s
 refine ⟨hl,s.imp id ?_⟩
 rintro ⟨hn,b,ver,e,h1,h2,h3⟩
 exact ⟨hn,b,ver,e,h1,Nat.lt_of_lt_of_le h2 f.n,by rw[f.old b h2 (by omega)];exact h3⟩
theorem Sl.flat {es lo n:Nat} {h:AHeap} {v:AV} {cs:List AV} (s:Sl es lo h v n cs):v.flat=true∧v.cells=[v]:=by
 obtain ⟨_,⟨_,rfl⟩|⟨_,b,ver,rfl,_⟩⟩:=s<;>exact ⟨rfl,rfl⟩
theorem Sl.len {es lo n:Nat} {h:AHeap} {v:AV} {cs:List AV} (s:Sl es lo h v n cs):lenA v=some (n:Int):=by
 obtain ⟨_,⟨h1,rfl⟩|⟨_,b,ver,rfl,_⟩⟩:=s
 ·rw[h1];rfl
 ·rfl
theorem Sl.lo {es lo lo' n:Nat} {h:AHeap} {v:AV} {cs:List AV} (s:Sl es lo h v n cs) (hl:lo'≤lo):Sl es lo' h v n cs:=by
 obtain ⟨h0,s⟩:=s
 refine ⟨h0,s.imp id ?_⟩
 rintro ⟨hn,b,ver,e,h1,h2⟩
 exact ⟨hn,b,ver,e,Nat.le_trans hl h1,h2⟩
theorem Sl.append {es lo n bytes:Nat} {h:AHeap} {v:AV} {cs new:List AV} (s:Sl es lo h v n cs) (hlo:lo≤h.n) (hnew:new.length=es) (hflat:allFlat new=true) (hroom:(n+1)*bytes≤room) (hn:n+1≤room) :
  ∃v' h',appendA h .own es bytes v 1 new=some (v',h')∧Sl es lo h' v' (n+1) (cs++new)∧h'.n=h.n+1∧∀b,b<lo→h'.get b=h.get b:=by
 obtain ⟨hl,⟨rfl,rfl⟩|⟨hpos,b,ver,rfl,h1,h2,h3⟩⟩:=s
 ·have hcs:cs=[]:=List.length_eq_zero_iff.1 (by simpa using hl)
  subst hcs
  refine ⟨.slice h.n 0 1 1 false,h.alloc (.cells .own es new),?_,⟨by simp [hnew],.inr ⟨by omega,h.n,0,rfl,hlo,by rw[AHeap.alloc_n];omega,by rw[AHeap.get_alloc,if_pos rfl];rfl⟩⟩,rfl,fun b hb=>by rw[AHeap.get_alloc,if_neg (by omega)]⟩
  simp only[appendA,same_own,hnew,hflat,beq_nat,ble_nat,Nat.one_mul,decide_true,Bool.not_true,Bool.or_false,cond_false,Nat.add_one_ne_zero,decide_false,cond_true]
  rw[decide_eq_true (show 1≤room by decide),decide_eq_true (show bytes≤room by omega)]
  rfl
 ·have hrow:row cs 0 (n*es)=some cs:=by
   rw[←hl]
   simp [row,ble_nat]
  refine ⟨.slice h.n 0 (n+1) (n+1) false,(h.upd b (ver+1) .dead).alloc (.cells .own es (cs++new)),?_,⟨by rw[List.length_append,hl,hnew];exact (Nat.succ_mul n es).symm,.inr ⟨by omega,h.n,0,rfl,by omega,by rw[AHeap.alloc_n,AHeap.upd_n];omega,by rw[AHeap.get_alloc,AHeap.upd_n,if_pos rfl]⟩⟩,rfl,fun b' hb=>by rw[AHeap.get_alloc,if_neg (by rw[AHeap.upd_n];omega),AHeap.get_upd,if_neg (by omega)]⟩
  have e1:¬n+1≤n:=by omega
  have e2:¬n=0:=by omega
  simp only[appendA,same_own,h3,hnew,hflat,hrow,beq_nat,ble_nat,Nat.one_mul,decide_true,Bool.not_true,Bool.or_false,cond_false,Nat.add_one_ne_zero,decide_false,cond_true,e1,e2,decide_eq_true hroom,decide_eq_true hn,Bool.and_true]
def toksAV (ts:List Tok):List AV:=ts.flatMap fun t=>(tokAV t).cells
theorem toksAV_snoc (ts:List Tok) (t:Tok):toksAV ts++(tokAV t).cells=toksAV (ts++[t]):=by simp [toksAV]
abbrev TokSl (lo:Nat) (h:AHeap) (v:AV) (ts:List Tok):Prop:=Sl 5 lo h v ts.length (toksAV ts)
theorem recover_ret {o b:Nat} {h:AHeap} {Q:AHeap→Prop} (hQ:Q h):WDef F 70 [.ptr o 0,.ptr b 0] .ret h Q:=by
 refine WDef.code F70 rfl ?_
 simp(disch:=(try simp only[hN]);omega)only[go_sem,simprocAttr,eqT,eqK]
 exact hQ
theorem recover_stop {o b e p v1 v2:Nat} {h:AHeap} {x1 x2 x3:AV} {Q:AHeap→Prop} (ho:h.get o=some ⟨v1,.cells .own 0 [x1]⟩) (hb:h.get b=some ⟨v2,.cells .own 0 [x2,x3]⟩) (hob:o≠b) (hon:o<h.n) (hbn:b<h.n)
  (hQ:∀h',h.n≤h'.n→(∀c,c<h.n→c≠o→c≠b→h'.get c=h.get c)→(∃v,h'.get o=some ⟨v,.cells .own 0 [.nilSlice]⟩)→(∃v,h'.get b=some ⟨v,.cells .own 0 [errAV e,.int .i64 (p:Int)]⟩)→Q h') :
  WDef F 70 [.ptr o 0,.ptr b 0] (.pan (.iface 117 (.agg [errAV e,.int .i64 (p:Int)]))) h Q:=by
 refine WDef.code F70 rfl ?_
 simp(disch:=(try simp only[hN]);omega)only[go_sem,simprocAttr,eqT,eqK,Nat.beq_refl,List.getElem?_cons_zero,ho,hb]
 exact ⟨by
   have:¬h.n=o:=by omega
   simp [this],hQ _ (by simp only[AHeap.alloc_n,AHeap.upd_n];omega) (fun c hc h1 h2=>by simp(disch:=(try simp only[hN]);omega)only[go_sem,simprocAttr]) ⟨v1+1,by simp(disch:=(try simp only[hN]);omega)only[go_sem,simprocAttr]⟩ ⟨v2+1,by simp(disch:=(try simp only[hN]);omega)only[go_sem,simprocAttr]⟩⟩
def TokensQ (h:AHeap) (Q:QR):Except Err (List Tok)→Prop
 | .ok ts=>∀h' v,Fr h.n h h'→TokSl h.n h' v ts→Q (.ret (.tuple [v,.agg [.nilIface,.int .i64 0]])) h'
 | .error (e,p)=>∀h',Fr h.n h h'→Q (.ret (.tuple [.nilSlice,.agg [errAV e,.int .i64 (p:Int)]])) h'
def catT (ts:List Tok):Except Err (List Tok)→Except Err (List Tok)
 | .ok us=>.ok (ts++us)
 | .error e=>.error e
theorem tokens_spec {s:Bs} {h:AHeap} (hG:GH h) (hlen:s.length<2^62) {Q:QR} (hQ:TokensQ h Q (tokens s)):WF F 33 [.str s] h Q:=by
 refine WF.code F33 rfl ?_
 simp(disch:=(try simp only[hN]);omega)only[go_sem,simprocAttr]
 (first|refine kA (fun hbig=>?_) (fun hbig=>?_)|refine kB (fun hbig=>?_) (fun hbig=>?_)|refine kC (fun hbig=>?_) (fun hbig=>?_)|refine kD (fun hbig=>?_) (fun hbig=>?_)|refine kE (fun hbig=>?_) (fun hbig=>?_)|refine kF (fun hbig=>?_) (fun hbig=>?_))
 ·have hb:8192<s.length:=(by have:=of_decide_eq_true hbig;omega)
  have hG1:=(hG.alloc (.cells .own 0 [.nilSlice])).alloc (.cells .own 0 [.nilIface,.int .i64 0])
  simp(disch:=(try simp only[hN]);omega)only[go_sem,simprocAttr,hG1.g0]
  simp only[tokens,if_pos hb,TokensQ] at hQ
  have h0:¬7=h.n:=by have:=hG.n;omega
  exact ⟨by simp [h0],hQ _ ⟨by (try simp only[hN]);omega,fun b hb hne=>by (try simp only[hN] at hb hne);simp(disch:=(try simp only[hN]);omega)only[go_sem,simprocAttr]⟩⟩
 ·have hb:¬8192<s.length:=(by have:=of_decide_eq_false hbig;omega)
  simp(disch:=(try simp only[hN]);omega)only[go_sem,simprocAttr]
  refine skip_spec hlen (RdL.mk' (v:=0) (q:=0) (List.suffix_refl s) (by omega) (by (first|(simp(disch:=(try simp only[hN]);omega)only[go_sem,simprocAttr];done)|(simp(disch:=(try simp only[hN]);omega)only[go_sem,simprocAttr];rfl)))) ?_
  intro h1 hrd1 hf1
  have hn1:=hf1.n;try simp only[hN] at hn1
  simp(disch:=(try simp only[hN]);omega)only[go_sem,simprocAttr]
  refine wp_loop (fun n a h2=>∃ts l1 ov v2,n=l1.length∧TokSl (h.n+3) h2 ov ts∧h2.get h.n=some ⟨v2,.cells .own 0 [ov]⟩∧h2.get (h.n+1)=some ⟨0,.cells .own 0 [.nilIface,.int .i64 0]⟩∧RdL h2 (h.n+2) s l1∧(∀b,b<h.n→h2.get b=h.get b)∧h.n+3≤h2.n∧ts.length≤2000∧(∃f,l1.length<f∧tokens s=catT ts (toksL s.length f l1 ts.length))∧a.tm.get 0=some (.str s)∧a.tm.get 2=some (.ptr h.n 0)∧a.tm.get 3=some (.ptr (h.n+1) 0)∧a.tm.get 4=some (.ptr (h.n+2) 0)∧a.df=[(70,[.ptr h.n 0,.ptr (h.n+1) 0])]) ?_ (skip s).length ?_
  ·rintro n ⟨t,df⟩ h2 ⟨ts,l1,ov,v2,hn,hts,hb0,hb1,hrd,hold,hn2,hcount,⟨f,hf,htk⟩,k0,k2,k3,k4,hdf⟩
   simp only at k0 k2 k3 k4 hdf
   subst hdf
   obtain ⟨p,ver,hp,hpl,hr,hd,hc⟩:=hrd.pos
   have hfr2:Fr h.n h h2:=⟨by omega,fun b hb _=>hold b hb⟩
   have hG2:GH h2:=hfr2.gh hG.n hG
   have hlen2:=hts.len
   have hcell:=hts.flat.2
   have hflat:=hts.flat.1
   obtain ⟨f,rfl⟩:∃g,f=g+1:=⟨f-1,by omega⟩
   simp only[toksL] at htk
   simp(disch:=(try simp only[hN]);omega)only[go_sem,simprocAttr,k0,k4,hr]
   (first|refine kA (fun hlt=>?_) (fun hlt=>?_)|refine kB (fun hlt=>?_) (fun hlt=>?_)|refine kC (fun hlt=>?_) (fun hlt=>?_)|refine kD (fun hlt=>?_) (fun hlt=>?_)|refine kE (fun hlt=>?_) (fun hlt=>?_)|refine kF (fun hlt=>?_) (fun hlt=>?_))
   ·have hlt':p<s.length:=(by have:=of_decide_eq_true hlt;omega)
    have hne:l1≠[]:=by intro e;subst e;simp only[List.length_nil] at hpl;omega
    rw[if_neg hne] at htk
    simp(disch:=(try simp only[hN]);omega)only[go_sem,simprocAttr,k2,hb0,hlen2]
    (first|refine kA (fun hmany=>?_) (fun hmany=>?_)|refine kB (fun hmany=>?_) (fun hmany=>?_)|refine kC (fun hmany=>?_) (fun hmany=>?_)|refine kD (fun hmany=>?_) (fun hmany=>?_)|refine kE (fun hmany=>?_) (fun hmany=>?_)|refine kF (fun hmany=>?_) (fun hmany=>?_))
    ·have hm:ts.length=2000:=by
      have:(ts.length:Int)=2000:=by simpa using hmany
      omega
     rw[if_pos hm,hp] at htk
     rw[htk] at hQ
     simp(disch:=(try simp only[hN]);omega)only[go_sem,simprocAttr,k4,hG2.g0,hr]
     refine stop_spec ?_
     simp(disch:=(try simp only[hN]);omega)only[go_sem,simprocAttr]
     refine recover_stop (e:=6) (p:=p) hb0 hb1 (by omega) (by omega) (by omega) ?_
     intro h3 hn3 hold3 ⟨v4,ho⟩ ⟨v5,hbb⟩
     simp(disch:=(try simp only[hN]);omega)only[go_sem,simprocAttr,k2,k3,ho,hbb]
     exact hQ _ ⟨by omega,fun b hb hne=>by rw[hold3 b (by omega) (by omega) (by omega),hold b hb]⟩
    ·have hm:¬ts.length=2000:=by
      have:¬(ts.length:Int)=2000:=by simpa using hmany
      omega
     rw[if_neg hm] at htk
     simp(disch:=(try simp only[hN]);omega)only[go_sem,simprocAttr,k2,k4,hb0]
     refine next_spec hG2 (by have:=hG.n;omega) (by omega) hlen hrd hne ?_
     cases hnx:nextTok s.length l1 with
     | error x=>
      obtain ⟨e9,q9⟩:=x
      rw[hnx] at htk
      simp only[catT] at htk
      rw[htk] at hQ
      intro h3 hf3
      have hn3:=hf3.n;try simp only[hN] at hn3
      simp(disch:=(try simp only[hN]);omega)only[go_sem,simprocAttr,hf3.old,hb0]
      refine recover_stop (e:=e9) (p:=q9) (by rw[hf3.old _ (by omega) (by omega)];exact hb0) (by rw[hf3.old _ (by omega) (by omega)];exact hb1) (by omega) (by omega) (by omega) ?_
      intro h4 hn4 hold4 ⟨v4,ho⟩ ⟨v5,hbb⟩
      simp(disch:=(try simp only[hN]);omega)only[go_sem,simprocAttr,k2,k3,ho,hbb]
      exact hQ _ ⟨by omega,fun b hb hne=>by rw[hold4 b (by omega) (by omega) (by omega),hf3.old b (by omega) (by omega),hold b hb]⟩
     | ok x=>
      obtain ⟨tk,l2⟩:=x
      rw[hnx] at htk
      simp only at htk
      intro h3 hrd3 hf3
      have hn3:=hf3.n;try simp only[hN] at hn3
      have hts3:=(hts.fr hf3 (.inl (by omega))).fr (Fr.alloc (Fr.refl 0 h3) (.cells .own 5 (tokAV tk).cells)) (.inl (by omega))
      obtain ⟨v3,h4,happ,hts4,hn4,hold4⟩:=Sl.append hts3 (bytes:=48) (new:=(tokAV tk).cells) (by simp only[AHeap.alloc_n];omega) rfl rfl (by simp only[room];omega) (by simp only[room];omega)
      rw[toksAV_snoc,show ts.length+1=(ts++[tk]).length by simp] at hts4
      have hcell4:=hts4.flat.2
      have hflat4:=hts4.flat.1
      simp only[AHeap.alloc_n] at hn4
      have hb04:h4.get h.n=some ⟨v2,.cells .own 0 [ov]⟩:=by rw[hold4 _ (by omega)];simp(disch:=(try simp only[hN]);omega)only[go_sem,simprocAttr,hf3.old,hb0]
      have hb14:h4.get (h.n+1)=some ⟨0,.cells .own 0 [.nilIface,.int .i64 0]⟩:=by rw[hold4 _ (by omega)];simp(disch:=(try simp only[hN]);omega)only[go_sem,simprocAttr,hf3.old,hb1]
      have hrd4:RdL h4 (h.n+2) s l2:=hrd3.of (by rw[hold4 _ (by omega)];simp(disch:=(try simp only[hN]);omega)only[go_sem,simprocAttr])
      simp(disch:=(try simp only[hN]);omega)only[go_sem,simprocAttr,tokAV] at happ
      simp(disch:=(try simp only[hN]);omega)only[go_sem,simprocAttr,hf3.old,hb0,tokAV,happ,hb04,hcell4,hflat4,k2,k4]
      refine skip_spec hlen (hrd4.of (by simp(disch:=(try simp only[hN]);omega)only[go_sem,simprocAttr])) ?_
      intro h5 hrd5 hf5
      have hn5:=hf5.n;try simp only[hN] at hn5
      have hts5:=(hts4.fr (Fr.upd (r:=h.n) h4 (v2+1) (.cells .own 0 [v3])) (.inl (by omega))).fr hf5 (.inl (by omega))
      have hl2:=nextTok_len hnx
      have hl3:=(skip_suf l2).length_le
      simp(disch:=(try simp only[hN]);omega)only[go_sem,simprocAttr,k0,k2,k3,k4,hf5.old,hb14]
      refine ⟨_,?_,ts++[tk],skip l2,v3,v2+1,rfl,hts5,rfl,hrd5,?_,by omega,by simp only[List.length_append,List.length_cons,List.length_nil];omega,f,by omega,?_⟩
      ·omega
      ·intro b hb
       simp(disch:=(try simp only[hN]);omega)only[go_sem,simprocAttr,hf5.old]
       rw[hold4 b (by omega)]
       simp(disch:=(try simp only[hN]);omega)only[go_sem,simprocAttr,hf3.old]
       exact hold b hb
      ·rw[htk]
       simp only[List.length_append,List.length_cons,List.length_nil,Nat.zero_add]
       cases toksL s.length f (skip l2) (ts.length+1) with
       | ok us=>simp only[catT,List.append_assoc,List.cons_append,List.nil_append]
       | error e=>rfl
   ·have hl0:l1=[]:=List.length_eq_zero_iff.1 (by have:=of_decide_eq_false hlt;omega)
    rw[if_pos hl0] at htk
    simp only[catT,List.append_nil] at htk
    rw[htk] at hQ
    simp(disch:=(try simp only[hN]);omega)only[go_sem,simprocAttr,k2,k3,hb0,hb1,hcell,hflat]
    refine recover_ret ?_
    simp(disch:=(try simp only[hN]);omega)only[go_sem,simprocAttr,k2,k3]
    refine hQ _ _ ⟨by (try simp only[hN]);omega,fun b hb hne=>by (try simp only[hN] at hb hne);simp(disch:=(try simp only[hN]);omega)only[go_sem,simprocAttr,hold]⟩ (((hts.fr (Fr.upd (r:=h.n) h2 (v2+1) (.cells .own 0 [ov])) (.inl (by omega))).fr (Fr.upd (r:=h.n+1) _ 1 (.cells .own 0 [.nilIface,.int .i64 0])) (.inl (by omega))).lo (by omega))
  ·simp(disch:=(try simp only[hN]);omega)only[go_sem,simprocAttr,hf1.old]
   exact ⟨[],skip s,.nilSlice,0,rfl,Sl.nil,rfl,hrd1,fun b hb=>by simp(disch:=(try simp only[hN]);omega)only[go_sem,simprocAttr,hf1.old],by omega,by simp,⟨s.length+1,by have:=(skip_suf s).length_le;omega,by simp only[tokens,if_neg hb,List.length_nil];cases toksL s.length (s.length+1) (skip s) 0<;>rfl⟩,rfl⟩
end Go.Ev
namespace Go.Ev
section
variable {α:Type} {f:α→List AV} {k:Nat}
end
end Go.Ev
namespace Go.Ev
open Go
set_option maxRecDepth 100000
set_option maxHeartbeats 4000000
def ndC (n:Nd) (kv:AV):List AV:=[.int .i64 n.kind,.int .i64 n.pos,.str n.name,.int .i64 n.typ,.int .i64 n.n,.int .i64 n.size,.int .i64 n.obj,.int .u64 n.bits,kv]
mutual
inductive KidsS (S:Nat→Prop) (h:AHeap):List Nd→AV→Prop where
 | nil:KidsS S h [] .nilSlice
 | emp {b o c:Nat} {ex:Bool}:KidsS S h [] (.slice b o 0 c ex)
 | row {ns:List Nd} {b ver o c:Nat} {md:Md} {ex:Bool} {bs css:List AV}:ns≠[]→ns.length<2^61→S b→b<h.n→h.get b=some ⟨ver,.cells md 9 bs⟩→Go.Ev.row bs o (ns.length*9)=some css→RowsS S h ns css→KidsS S h ns (.slice b o ns.length c ex)
inductive RowsS (S:Nat→Prop) (h:AHeap):List Nd→List AV→Prop where
 | nil:RowsS S h [] []
 | cons {n:Nd} {ns:List Nd} {kv:AV} {css:List AV}:KidsS S h n.kids kv→RowsS S h ns css→RowsS S h (n::ns) (ndC n kv++css)
end
abbrev KidsR (lo:Nat) (h:AHeap) (ns:List Nd) (v:AV):Prop:=KidsS (fun b=>lo≤b) h ns v
abbrev RowsR (lo:Nat) (h:AHeap) (ns:List Nd) (css:List AV):Prop:=RowsS (fun b=>lo≤b) h ns css
theorem RowsS.len {S:Nat→Prop} {h:AHeap}:{ns:List Nd}→{css:List AV}→RowsS S h ns css→css.length=ns.length*9
 | _,_,.nil=>rfl
 | _,_,.cons _ r=>by rw[List.length_append,r.len,List.length_cons];simp [ndC];omega
theorem row_mk {vs:List AV} {o n:Nat} (h:o+n≤vs.length):row vs o n=some ((vs.drop o).take n):=by
 unfold row;rw[ble_nat,decide_eq_true h];rfl
theorem row_inv {vs cs:List AV} {o n:Nat} (h:row vs o n=some cs):o+n≤vs.length∧cs=(vs.drop o).take n:=by
 unfold row at h
 rw[ble_nat] at h
 by_cases e:o+n≤vs.length
 ·rw[decide_eq_true e] at h;exact ⟨e,(Option.some.inj h).symm⟩
 ·rw[decide_eq_false e] at h;cases h
theorem row_len {vs cs:List AV} {o n:Nat} (h:row vs o n=some cs):cs.length=n:=by
 obtain ⟨h1,rfl⟩:=row_inv h
 rw[List.length_take,List.length_drop];omega
theorem row_all {vs:List AV} {n:Nat} (h:vs.length=n):row vs 0 n=some vs:=by
 rw[row_mk (by omega),List.drop_zero,List.take_of_length_le (by omega)]
theorem row_sub {vs cs:List AV} {o n i k:Nat} (h:row vs o n=some cs) (hk:i+k≤n):row vs (o+i) k=row cs i k:=by
 have hl:=row_len h
 obtain ⟨h1,rfl⟩:=row_inv h
 rw[row_mk (by omega),row_mk (by omega),List.drop_take,List.take_take,List.drop_drop,Nat.min_eq_left (by omega)]
theorem KidsS.own {S:Nat→Prop} {b ver c:Nat} {md:Md} {h:AHeap} {ex:Bool} {ns:List Nd} {css:List AV} (hne:ns≠[]) (hl:ns.length<2^61) (hb:S b) (hn:b<h.n) (hg:h.get b=some ⟨ver,.cells md 9 css⟩) (r:RowsS S h ns css):KidsS S h ns (.slice b 0 ns.length c ex):=
 .row hne hl hb hn hg (row_all r.len) r
mutual
theorem KidsS.keep9 {S S':Nat→Prop} {h h':AHeap} (hS:∀b,S b→b<h.n→S' b) (hn:h.n≤h'.n) (f:∀b ver md css,S b→b<h.n→h.get b=some ⟨ver,.cells md 9 css⟩→h'.get b=h.get b):{ns:List Nd}→{v:AV}→KidsS S h ns v→KidsS S' h' ns v
 | _,_,.nil=>.nil
 | _,_,.emp=>.emp
 | _,_,.row h1 h0 h2 h3 h4 h5 h6=>.row h1 h0 (hS _ h2 h3) (Nat.lt_of_lt_of_le h3 hn) ((f _ _ _ _ h2 h3 h4).trans h4) h5 (RowsS.keep9 hS hn f h6)
theorem RowsS.keep9 {S S':Nat→Prop} {h h':AHeap} (hS:∀b,S b→b<h.n→S' b) (hn:h.n≤h'.n) (f:∀b ver md css,S b→b<h.n→h.get b=some ⟨ver,.cells md 9 css⟩→h'.get b=h.get b):{ns:List Nd}→{v:List AV}→RowsS S h ns v→RowsS S' h' ns v
 | _,_,.nil=>.nil
 | _,_,.cons h1 h2=>.cons (KidsS.keep9 hS hn f h1) (RowsS.keep9 hS hn f h2)
end
theorem KidsR.keep9 {lo lo':Nat} {h h':AHeap} (hlo:lo'≤lo) (hn:h.n≤h'.n) (f:∀b ver md css,lo≤b→b<h.n→h.get b=some ⟨ver,.cells md 9 css⟩→h'.get b=h.get b) {ns:List Nd} {v:AV} (k:KidsR lo h ns v):KidsR lo' h' ns v:=KidsS.keep9 (fun _ hb _=>Nat.le_trans hlo hb) hn f k
theorem RowsR.keep9 {lo lo':Nat} {h h':AHeap} (hlo:lo'≤lo) (hn:h.n≤h'.n) (f:∀b ver md css,lo≤b→b<h.n→h.get b=some ⟨ver,.cells md 9 css⟩→h'.get b=h.get b) {ns:List Nd} {v:List AV} (k:RowsR lo h ns v):RowsR lo' h' ns v:=RowsS.keep9 (fun _ hb _=>Nat.le_trans hlo hb) hn f k
theorem KidsR.keep {lo lo':Nat} {h h':AHeap} (hlo:lo'≤lo) (hn:h.n≤h'.n) (f:∀b,lo≤b→b<h.n→h'.get b=h.get b) {ns:List Nd} {v:AV} (k:KidsR lo h ns v):KidsR lo' h' ns v:=k.keep9 hlo hn fun b _ _ _ h1 h2 _=>f b h1 h2
theorem RowsR.keep {lo lo':Nat} {h h':AHeap} (hlo:lo'≤lo) (hn:h.n≤h'.n) (f:∀b,lo≤b→b<h.n→h'.get b=h.get b) {ns:List Nd} {v:List AV} (k:RowsR lo h ns v):RowsR lo' h' ns v:=k.keep9 hlo hn fun b _ _ _ h1 h2 _=>f b h1 h2
theorem KidsR.flat {lo:Nat} {h:AHeap} {ns:List Nd} {v:AV} (k:KidsR lo h ns v):v.flat=true∧v.cells=[v]:=by
 cases k<;>exact ⟨rfl,rfl⟩
theorem KidsR.fr {lo r:Nat} {h h':AHeap} {ns:List Nd} {v:AV} (k:KidsR lo h ns v) (f:Fr r h h') (hr:r<lo∨h.n≤r):KidsR lo h' ns v:=k.keep (Nat.le_refl _) f.n fun b h1 h2=>f.old b h2 (by omega)
theorem KidsR.lo {lo lo':Nat} {h:AHeap} {ns:List Nd} {v:AV} (k:KidsR lo h ns v) (hl:lo'≤lo):KidsR lo' h ns v:=k.keep hl (Nat.le_refl _) fun _ _ _=>rfl
def TokR (h:AHeap) (r:Nat) (ts:List Tok) (v:AV):Prop:=
 (ts=[]∧v=.nilSlice)∨∃b ver k all,v=.slice b (k*5) ts.length ts.length false∧b<r∧h.get b=some ⟨ver,.cells .own 5 (toksAV all)⟩∧all.drop k=ts
structure PInv (h:AHeap) (r E:Nat) (ts:List Tok) (lv:Nat):Prop where
 gh:GH h
 lo:21+17≤r
 hi:r<h.n
 lvl:lv≤16
 st:∃ver v,h.get r=some ⟨ver,.cells .own 0 [v,.int .i64 (E:Int),.int .i64 (lv:Int)]⟩∧TokR h r ts v
theorem TokR.fr {h h':AHeap} {q r:Nat} {ts:List Tok} {v:AV} (t:TokR h r ts v) (f:Fr q h h') (hr:r<h.n) (hq:r≤q):TokR h' r ts v:=by
 rcases t with q|⟨b,ver,k,all,h1,h2,h4,h5⟩
 ·exact .inl q
 ·exact .inr ⟨b,ver,k,all,h1,h2,by rw[f.old b (by omega) (by omega)];exact h4,h5⟩
theorem TokR.flat {h:AHeap} {r:Nat} {ts:List Tok} {v:AV} (t:TokR h r ts v):v.flat=true∧v.cells=[v]:=by
 rcases t with ⟨_,rfl⟩|⟨b,ver,k,all,rfl,_⟩<;>exact ⟨rfl,rfl⟩
theorem TokR.len {h:AHeap} {r:Nat} {ts:List Tok} {v:AV} (t:TokR h r ts v):lenA v=some (ts.length:Int):=by
 rcases t with ⟨rfl,rfl⟩|⟨b,ver,k,all,rfl,_⟩<;>rfl
theorem Fr.any {r q:Nat} {h h':AHeap} (f:Fr r h h') (hr:h.n≤r):Fr q h h':=⟨f.n,fun b hb _=>f.old b hb (by omega)⟩
theorem PInv.fr' {h h':AHeap} {q r E lv:Nat} {ts:List Tok} (p:PInv h r E ts lv) (f:Fr q h h') (hq:r<q):PInv h' r E ts lv:=by
 obtain ⟨ver,v,h1,h2⟩:=p.st
 exact ⟨f.gh (Nat.le_trans p.lo (Nat.le_of_lt hq)) p.gh,p.lo,Nat.lt_of_lt_of_le p.hi f.n,p.lvl,ver,v,by rw[f.old r p.hi (by omega)];exact h1,h2.fr f p.hi (Nat.le_of_lt hq)⟩
theorem PInv.fr {h h':AHeap} {r E lv:Nat} {ts:List Tok} (p:PInv h r E ts lv) (f:Fr h.n h h'):PInv h' r E ts lv:=p.fr' f p.hi
theorem PInv.step {h h':AHeap} {r E lv lv' ver:Nat} {ts ts':List Tok} {v:AV} (p:PInv h r E ts lv) (f:Fr r h h') (hg:h'.get r=some ⟨ver,.cells .own 0 [v,.int .i64 (E:Int),.int .i64 (lv':Int)]⟩) (t:TokR h r ts' v) (hv:lv'≤16):PInv h' r E ts' lv':=
 ⟨f.gh p.lo p.gh,p.lo,Nat.lt_of_lt_of_le p.hi f.n,hv,ver,v,hg,t.fr f p.hi (Nat.le_refl _)⟩
end Go.Ev
