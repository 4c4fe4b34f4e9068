/- The lexer's small functions: what each answers. -/
import Derived.Test.YtafbchppfbonpaaGreatDoorZDT
import Derived.Test.YtafbchppfbonpaaGreatDoorPuA
import Derived.Test.YtafbchppfbonpaaGreatDoorEvB
set_option linter.all false
set_option linter.unusedVariables false
set_option linter.unusedSimpArgs false
namespace Go.Ev
open Go
set_option maxRecDepth 100000
set_option maxHeartbeats 4000000
def Rd (h:AHeap) (r:Nat) (s:List UInt8) (i:Nat):Prop:=∃ver,h.get r=some ⟨ver,.cells .own 0 [.str s,.int .i64 (i:Int)]⟩
structure Fr (r:Nat) (h h':AHeap):Prop where
 n:h.n≤h'.n
 old:∀b,b<h.n→b≠r→h'.get b=h.get b
theorem Fr.refl (r:Nat) (h:AHeap):Fr r h h:=⟨Nat.le_refl _,fun _ _ _=>rfl⟩
theorem Fr.trans {r:Nat} {h h1 h2:AHeap} (a:Fr r h h1) (b:Fr r h1 h2):Fr r h h2:=⟨Nat.le_trans a.n b.n,fun x hx hn=>(b.old x (Nat.lt_of_lt_of_le hx a.n) hn).trans (a.old x hx hn)⟩
theorem Fr.upd {r:Nat} (h:AHeap) (v:Nat) (o:AObj):Fr r h (h.upd r v o):=⟨Nat.le_refl _,fun b _ hb=>by rw[AHeap.get_upd,if_neg hb]⟩
theorem Fr.upd' {r:Nat} {h h1:AHeap} (f:Fr r h h1) (v:Nat) (o:AObj):Fr r h (h1.upd r v o):=f.trans (Fr.upd _ _ _)
theorem Fr.alloc {r:Nat} {h h1:AHeap} (f:Fr r h h1) (o:AObj):Fr r h (h1.alloc o):=⟨Nat.le_succ_of_le f.n,fun b hb hn=>by rw[AHeap.get_alloc,if_neg (by have:=f.n;omega)];exact f.old b hb hn⟩
def PureB (g:Nat) (p:UInt8→Bool):Prop:=∀c h Q,Q (.ret (.bool (p c))) h→WF F g [.int .u8 c.toNat] h Q
def atB (p:UInt8→Bool) (s:List UInt8) (i:Nat):Bool:=match s[i]? with|some c=>p c|none=>false
theorem useB {Q:QR} {h:AHeap} {a b:Bool} (hQ:Q (.ret (.bool a)) h) (e:a=b):Q (.ret (.bool b)) h:=e ▸ hQ
theorem digit_spec:PureB 69 isDigit:=by
 intro c h Q hQ
 refine WF.code F69 rfl ?_
 simp(disch:=(try simp only[hN]);omega)only[go_sem,simprocAttr]
 repeat' ((first|refine kA (fun hb=>?_) (fun hb=>?_)|refine kB (fun hb=>?_) (fun hb=>?_)|refine kC (fun hb=>?_) (fun hb=>?_)|refine kD (fun hb=>?_) (fun hb=>?_)|refine kE (fun hb=>?_) (fun hb=>?_)|refine kF (fun hb=>?_) (fun hb=>?_))<;>simp(disch:=(try simp only[hN]);omega)only[go_sem,simprocAttr,hb])
 all_goals (refine useB hQ (Bool.eq_iff_iff.2 ?_);simp [isDigit] at *;try omega)
theorem letter_spec:PureB 67 isLetter:=by
 intro c h Q hQ
 refine WF.code F67 rfl ?_
 simp(disch:=(try simp only[hN]);omega)only[go_sem,simprocAttr]
 repeat' ((first|refine kA (fun hb=>?_) (fun hb=>?_)|refine kB (fun hb=>?_) (fun hb=>?_)|refine kC (fun hb=>?_) (fun hb=>?_)|refine kD (fun hb=>?_) (fun hb=>?_)|refine kE (fun hb=>?_) (fun hb=>?_)|refine kF (fun hb=>?_) (fun hb=>?_))<;>simp(disch:=(try simp only[hN]);omega)only[go_sem,simprocAttr,hb])
 all_goals (refine useB hQ (Bool.eq_iff_iff.2 ?_);simp [isLetter] at *;try omega)
theorem blank_spec:PureB 63 isBlank:=by
 intro c h Q hQ
 refine WF.code F63 rfl ?_
 simp(disch:=(try simp only[hN]);omega)only[go_sem,simprocAttr]
 repeat' ((first|refine kA (fun hb=>?_) (fun hb=>?_)|refine kB (fun hb=>?_) (fun hb=>?_)|refine kC (fun hb=>?_) (fun hb=>?_)|refine kD (fun hb=>?_) (fun hb=>?_)|refine kE (fun hb=>?_) (fun hb=>?_)|refine kF (fun hb=>?_) (fun hb=>?_))<;>simp(disch:=(try simp only[hN]);omega)only[go_sem,simprocAttr,hb])
 all_goals (refine useB hQ (Bool.eq_iff_iff.2 ?_);simp [isBlank] at *;try omega)
theorem notNL_spec:PureB 65 notNL:=by
 intro c h Q hQ
 refine WF.code F65 rfl ?_
 simp(disch:=(try simp only[hN]);omega)only[go_sem,simprocAttr]
 refine useB hQ (Bool.eq_iff_iff.2 ?_)
 simp [notNL]
 try omega
theorem inWord_spec:PureB 77 isWord:=by
 intro c h Q hQ
 refine WF.code F77 rfl ?_
 simp(disch:=(try simp only[hN]);omega)only[go_sem,simprocAttr]
 refine letter_spec _ _ _ ?_
 simp(disch:=(try simp only[hN]);omega)only[go_sem,simprocAttr]
 (first|refine kA (fun hb=>?_) (fun hb=>?_)|refine kB (fun hb=>?_) (fun hb=>?_)|refine kC (fun hb=>?_) (fun hb=>?_)|refine kD (fun hb=>?_) (fun hb=>?_)|refine kE (fun hb=>?_) (fun hb=>?_)|refine kF (fun hb=>?_) (fun hb=>?_))<;>simp(disch:=(try simp only[hN]);omega)only[go_sem,simprocAttr,hb]
 ·refine digit_spec _ _ _ ?_
  simp(disch:=(try simp only[hN]);omega)only[go_sem,simprocAttr,hb]
  exact useB hQ (by simp [isWord,hb])
 ·exact useB hQ (by simp [isWord,hb])
theorem here_spec {r i:Nat} {s:List UInt8} {g:Nat} {h:AHeap} {p:UInt8→Bool} (hrd:Rd h r s i) (hp:PureB g p) {Q:QR} (hQ:Q (.ret (.bool (atB p s i))) h):WF F 66 [.ptr r 0,.func (.func g) [] []] h Q:=by
 obtain ⟨ver,hr⟩:=hrd
 refine WF.code F66 rfl ?_
 simp(disch:=(try simp only[hN]);omega)only[go_sem,simprocAttr,hr]
 (first|refine kA (fun hb=>?_) (fun hb=>?_)|refine kB (fun hb=>?_) (fun hb=>?_)|refine kC (fun hb=>?_) (fun hb=>?_)|refine kD (fun hb=>?_) (fun hb=>?_)|refine kE (fun hb=>?_) (fun hb=>?_)|refine kF (fun hb=>?_) (fun hb=>?_))
 ·have hb':i<s.length:=by simpa using hb
  have hi:s[i]?=some s[i]:=List.getElem?_eq_getElem hb'
  simp(disch:=(try simp only[hN]);omega)only[go_sem,simprocAttr,hr,hb,hi]
  refine hp _ _ _ ?_
  simp(disch:=(try simp only[hN]);omega)only[go_sem,simprocAttr,hr,hb,hi]
  simpa [atB,hi] using hQ
 ·have hi:s[i]?=none:=by simpa using hb
  simp(disch:=(try simp only[hN]);omega)only[go_sem,simprocAttr,hr,hb]
  simpa [atB,hi] using hQ
theorem takeWhile_drop (p:UInt8→Bool) (s:List UInt8) (i:Nat) (h:atB p s i=true):i<s.length∧((s.drop i).takeWhile p).length=((s.drop (i+1)).takeWhile p).length+1:=by
 unfold atB at h
 cases e:s[i]? with
 | none=>rw[e] at h;cases h
 | some c=>
  rw[e] at h
  obtain ⟨hl,hc⟩:=List.getElem?_eq_some_iff.1 e
  refine ⟨hl,?_⟩
  rw[List.drop_eq_getElem_cons hl,hc,List.takeWhile_cons,if_pos h]
  rfl
theorem takeWhile_stop (p:UInt8→Bool) (s:List UInt8) (i:Nat) (h:atB p s i=false):(s.drop i).takeWhile p=[]:=by
 unfold atB at h
 cases e:s[i]? with
 | none=>rw[List.drop_eq_nil_of_le (by simpa using e)];rfl
 | some c=>
  rw[e] at h
  obtain ⟨hl,hc⟩:=List.getElem?_eq_some_iff.1 e
  have h':¬p c=true:=by simp only at h;simp [h]
  rw[List.drop_eq_getElem_cons hl,hc,List.takeWhile_cons,if_neg h']
theorem take_takeWhile (p:UInt8→Bool) (l:List UInt8):l.take (l.takeWhile p).length=l.takeWhile p:=by
 induction l with
 | nil=>rfl
 | cons c l ih=>
  rw[List.takeWhile_cons]
  cases p c with
  | false=>rfl
  | true=>simp [ih]
theorem takeWhile_le (p:UInt8→Bool) (s:List UInt8) (i:Nat) (hi:i≤s.length):i+((s.drop i).takeWhile p).length≤s.length:=by
 have h1:((s.drop i).takeWhile p).length≤(s.drop i).length:=(List.takeWhile_prefix p).length_le
 rw[List.length_drop] at h1
 omega
theorem while_spec {r g:Nat} {s:List UInt8} {p:UInt8→Bool} (hbig:s.length<2^62) (hp:PureB g p) {i:Nat} {h:AHeap} (hi:i≤s.length) (hrd:Rd h r s i) {Q:QR}
  (hQ:∀h',Rd h' r s (i+((s.drop i).takeWhile p).length)→Fr r h h'→Q (.ret (.str ((s.drop i).takeWhile p))) h'):WF F 62 [.ptr r 0,.func (.func g) [] []] h Q:=by
 have hrd0:=hrd
 obtain ⟨ver,hr⟩:=hrd
 refine WF.code F62 rfl ?_
 simp(disch:=(try simp only[hN]);omega)only[go_sem,simprocAttr,hr]
 refine wp_loop (fun n a h1=>∃j,n=s.length-j∧i≤j∧j≤s.length∧Rd h1 r s j∧Fr r h h1∧j+((s.drop j).takeWhile p).length=i+((s.drop i).takeWhile p).length∧a.tm.get 0=some (.ptr r 0)∧a.tm.get 1=some (.func (.func g) [] [])∧a.tm.get 5=some (.int .i64 (i:Int))∧a.df=[]) ?_ (s.length-i) ⟨i,rfl,Nat.le_refl _,hi,hrd0,Fr.refl _ _,rfl,by simp(disch:=(try simp only[hN]);omega)only[go_sem,simprocAttr],by simp(disch:=(try simp only[hN]);omega)only[go_sem,simprocAttr],by simp(disch:=(try simp only[hN]);omega)only[go_sem,simprocAttr],rfl⟩
 rintro n ⟨t,df⟩ h1 ⟨j,hn,hij,hjs,hrd1,hfr,htw,h0,h1',h5,hdf⟩
 simp only at h0 h1' h5 hdf
 subst hdf
 simp(disch:=(try simp only[hN]);omega)only[go_sem,simprocAttr,h0,h1',h5]
 refine here_spec hrd1 hp ?_
 simp(disch:=(try simp only[hN]);omega)only[go_sem,simprocAttr,h0,h1',h5]
 obtain ⟨ver1,hr1⟩:=hrd1
 (first|refine kA (fun hb=>?_) (fun hb=>?_)|refine kB (fun hb=>?_) (fun hb=>?_)|refine kC (fun hb=>?_) (fun hb=>?_)|refine kD (fun hb=>?_) (fun hb=>?_)|refine kE (fun hb=>?_) (fun hb=>?_)|refine kF (fun hb=>?_) (fun hb=>?_))
 ·obtain ⟨hl,hw⟩:=takeWhile_drop p s j hb
  simp(disch:=(try simp only[hN]);omega)only[go_sem,simprocAttr,h0,hr1]
  refine ⟨s.length-(j+1),by omega,j+1,rfl,by omega,by omega,⟨ver1+1,by (first|(simp(disch:=(try simp only[hN]);omega)only[go_sem,simprocAttr];done)|(simp(disch:=(try simp only[hN]);omega)only[go_sem,simprocAttr];rfl))⟩,hfr.trans (Fr.upd _ _ _),by omega,?_⟩
  simp(disch:=(try simp only[hN]);omega)only[go_sem,simprocAttr,h0,h1',h5]
 ·have hw:=takeWhile_stop p s j hb
  rw[hw] at htw
  have hj:j=i+((s.drop i).takeWhile p).length:=by simpa using htw
  have hle:=takeWhile_le p s i hi
  simp(disch:=(try simp only[hN]);omega)only[go_sem,simprocAttr,h0,h1',h5,hb,hr1]
  rw[hj] at hr1 ⊢
  simp(disch:=(try simp only[hN]);omega)only[go_sem,simprocAttr,Nat.add_sub_cancel_left,take_takeWhile]
  exact hQ _ ⟨_,hr1⟩ hfr
def txts:List Bs:=[[115,116,111,99,107,97,100,101,58,32,114,97,110,103,101],[115,116,111,99,107,97,100,101,58,32,116,101,120,116],[115,116,111,99,107,97,100,101,58,32,100,101,112,116,104],[115,116,111,99,107,97,100,101,58,32,110,97,109,101],[115,116,111,99,107,97,100,101,58,32,116,121,112,101],[115,116,111,99,107,97,100,101,58,32,108,97,114,103,101],[115,116,111,99,107,97,100,101,58,32,102,117,108,108],[115,116,111,99,107,97,100,101,58,32,110,111,110,101],[115,116,111,99,107,97,100,101,58,32,99,111,100,101],[115,116,111,99,107,97,100,101,58,32,115,116,97,116,101],[115,116,111,99,107,97,100,101,58,32,102,114,97,109,101],[115,116,111,99,107,97,100,101,58,32,109,97,99],[115,116,111,99,107,97,100,101,58,32,114,101,112,108,97,121],[115,116,111,99,107,97,100,101,58,32,97,114,101,110,97],[115,116,111,99,107,97,100,101,58,32,99,108,111,99,107],[115,116,111,99,107,97,100,101,58,32,113,117,111,116,97],[115,116,111,99,107,97,100,101,58,32,116,101,110,97,110,116]]
def txt (g:Nat):Bs:=txts.getD g []
def gi (e:Nat):Nat:=e-1
def errG (g:Nat):AV:=.iface 109 (.ptr (18+g) 0)
def errAV (e:Nat):AV:=errG (gi e)
@[go_sem] theorem cells_err {e:Nat}:AV.cells (errAV e)=[errAV e]:=Eq.trans rfl rfl
@[go_sem] theorem flat_err {e:Nat}:AV.flat (errAV e)=true:=Eq.trans rfl rfl
@[go_sem] theorem cells_errG {e:Nat}:AV.cells (errG e)=[errG e]:=Eq.trans rfl rfl
@[go_sem] theorem flat_errG {e:Nat}:AV.flat (errG e)=true:=Eq.trans rfl rfl
@[go_sem] theorem eqT_err {e:Nat}:eqT (.one .iface) (errAV e) .nilIface=some false:=Eq.trans rfl rfl
@[go_sem] theorem eqT_nil:eqT (.one .iface) .nilIface .nilIface=some true:=Eq.trans rfl rfl
structure GH (h:AHeap):Prop where
 n:18+17≤h.n
 gl:∀g,g<17→h.get g=some ⟨0,.cells .ro 0 [errG g]⟩
 st:∀g,g<17→h.get (18+g)=some ⟨0,.cells .sent 0 [.str (txt g)]⟩
theorem Fr.gh {r:Nat} {h h':AHeap} (f:Fr r h h') (hr:18+17≤r) (g:GH h):GH h':=
 ⟨Nat.le_trans g.n f.n,fun i hi=>by rw[f.old _ (by have:=g.n;omega) (by omega)];exact g.gl i hi,fun i hi=>by rw[f.old _ (by have:=g.n;omega) (by omega)];exact g.st i hi⟩
theorem GH.alloc {h:AHeap} (g:GH h) (o:AObj):GH (h.alloc o):=(Fr.alloc (Fr.refl h.n h) o).gh g.n g
theorem GH.upd {h:AHeap} (g:GH h) {b:Nat} (hb:18+17≤b) (v:Nat) (o:AObj):GH (h.upd b v o):=(Fr.upd h v o).gh hb g
theorem GH.g0 {h:AHeap} (g:GH h):h.get 5=some ⟨0,.cells .ro 0 [errAV 6]⟩:=g.gl 5 (by decide)
theorem GH.g1 {h:AHeap} (g:GH h):h.get 0=some ⟨0,.cells .ro 0 [errAV 1]⟩:=g.gl 0 (by decide)
theorem GH.g2 {h:AHeap} (g:GH h):h.get 1=some ⟨0,.cells .ro 0 [errAV 2]⟩:=g.gl 1 (by decide)
theorem GH.g3 {h:AHeap} (g:GH h):h.get 2=some ⟨0,.cells .ro 0 [errAV 3]⟩:=g.gl 2 (by decide)
def tokStop (e pos:Nat):CRes:=.pan (.iface 79 (.agg [errAV e,.int .i64 (pos:Int)]))
attribute [go_sem] tokStop
def RdL (h:AHeap) (r:Nat) (s l:Bs):Prop:=l <:+ s∧Rd h r s (s.length-l.length)
theorem suf_drop {s l:Bs} (h:l <:+ s):s.drop (s.length-l.length)=l:=by
 obtain ⟨p,rfl⟩:=h
 simp
theorem suf_len {s l:Bs} (h:l <:+ s):l.length≤s.length:=h.length_le
theorem dropWhile_len (p:UInt8→Bool) (l:Bs):(l.dropWhile p).length+(l.takeWhile p).length=l.length:=by
 have:=congrArg List.length (List.takeWhile_append_dropWhile (p:=p) (l:=l))
 rw[List.length_append] at this
 omega
theorem dropWhile_suf (p:UInt8→Bool) (l:Bs):l.dropWhile p <:+ l:=List.dropWhile_suffix p
theorem whileL {r g:Nat} {s l:Bs} {p:UInt8→Bool} (hbig:s.length<2^62) (hp:PureB g p) {h:AHeap} (hrd:RdL h r s l) {Q:QR}
  (hQ:∀h',RdL h' r s (l.dropWhile p)→Fr r h h'→Q (.ret (.str (l.takeWhile p))) h'):WF F 62 [.ptr r 0,.func (.func g) [] []] h Q:=by
 have h1:=suf_len hrd.1
 have h2:=dropWhile_len p l
 refine while_spec hbig hp (i:=s.length-l.length) (by omega) hrd.2 ?_
 intro h' hr hf
 rw[suf_drop hrd.1] at hr ⊢
 refine hQ h' ⟨(dropWhile_suf p l).trans hrd.1,?_⟩ hf
 have e:s.length-(l.dropWhile p).length=s.length-l.length+(l.takeWhile p).length:=by omega
 rw[e];exact hr
theorem hereL {r g:Nat} {s l:Bs} {p:UInt8→Bool} {h:AHeap} (hp:PureB g p) (hrd:RdL h r s l) {Q:QR} (hQ:Q (.ret (.bool (headB p l))) h):WF F 66 [.ptr r 0,.func (.func g) [] []] h Q:=by
 refine here_spec hrd.2 hp (useB hQ ?_)
 have h1:=suf_len hrd.1
 have h2:s[s.length-l.length]?=l[0]?:=by
  have:=congrArg (fun l=>l[0]?) (suf_drop hrd.1)
  simpa using this
 unfold atB
 rw[h2]
 cases l<;>rfl
theorem slHasPrefix {a b:Bs} {h:AHeap} {Q:QR} (hQ:Q (.ret (.bool (hasP a b))) h):WF F 76 [.str a,.str b] h Q:=by
 refine WF.code F76 rfl ?_
 simp(disch:=(try simp only[hN]);omega)only[go_sem,simprocAttr]
 (first|refine kA (fun hb=>?_) (fun hb=>?_)|refine kB (fun hb=>?_) (fun hb=>?_)|refine kC (fun hb=>?_) (fun hb=>?_)|refine kD (fun hb=>?_) (fun hb=>?_)|refine kE (fun hb=>?_) (fun hb=>?_)|refine kF (fun hb=>?_) (fun hb=>?_))
 ·have hle:b.length≤a.length:=by simpa using hb
  simp(disch:=(try simp only[hN]);omega)only[go_sem,simprocAttr,hb,bnd_num hle,List.drop_zero,Nat.sub_zero]
  exact hQ
 ·simp(disch:=(try simp only[hN]);omega)only[go_sem,simprocAttr,hb]
  refine useB hQ ?_
  simp at hb
  simp only[hasP,beq_eq_false_iff_ne,ne_eq]
  intro e
  have:=congrArg List.length e
  rw[List.length_take] at this
  omega
theorem hasPrefix {a b:Bs} {h:AHeap} {Q:QR} (hQ:Q (.ret (.bool (hasP a b))) h):WF F 64 [.str a,.str b] h Q:=by
 refine WF.code F64 rfl ?_
 simp(disch:=(try simp only[hN]);omega)only[go_sem,simprocAttr]
 refine slHasPrefix ?_
 simp(disch:=(try simp only[hN]);omega)only[go_sem,simprocAttr]
 exact hQ
theorem indexByte {s:Bs} {c:UInt8} {h:AHeap} {Q:QR} (hQ:Q (.ret (.int .i64 (findB c.toNat s 0))) h):WF F 80 [.str s,.int .u8 c.toNat] h Q:=by
 refine WF.code F80 rfl ?_
 simp(disch:=(try simp only[hN]);omega)only[go_sem,simprocAttr]
 refine WF.code F86 rfl ?_
 simp(disch:=(try simp only[hN]);omega)only[go_sem,simprocAttr]
 refine WF.prim F89 rfl ?_
 simp(disch:=(try simp only[hN]);omega)only[go_sem,simprocAttr,UInt8.ofNat_toNat]
 exact hQ
def findW (w:Bs):List Bs→Nat→Int
 | [],_=>-1
 | x::r,i=>bif w==x then i else findW w r (i+1)
theorem sIndex {ws:List Bs} {w:Bs} {b ver cap:Nat} {ex:Bool} {md:Md} {h:AHeap} (hb:h.get b=some ⟨ver,.cells md 1 (ws.map .str)⟩) (hl:ws.length<2^62) {Q:QR} (hQ:Q (.ret (.int .i64 (findW w ws 0))) h):WF F 46 [.slice b 0 ws.length cap ex,.str w] h Q:=by
 refine WF.code F46 rfl ?_
 simp(disch:=(try simp only[hN]);omega)only[go_sem,simprocAttr]
 refine wp_loop (fun n a h1=>∃i:Nat,n=ws.length-i∧i≤ws.length∧h1=h∧findW w ws 0=findW w (ws.drop i) i∧a.tm.get 0=some (.slice b 0 ws.length cap ex)∧a.tm.get 1=some (.str w)∧a.tm.get 7=some (.int .i64 (ws.length:Int))∧a.tm.get 8=some (.int .i64 (i:Int))∧a.df=[]) ?_ ws.length ⟨0,rfl,Nat.zero_le _,rfl,rfl,by simp(disch:=(try simp only[hN]);omega)only[go_sem,simprocAttr],by simp(disch:=(try simp only[hN]);omega)only[go_sem,simprocAttr],by simp(disch:=(try simp only[hN]);omega)only[go_sem,simprocAttr],by (first|(simp(disch:=(try simp only[hN]);omega)only[go_sem,simprocAttr];done)|(simp(disch:=(try simp only[hN]);omega)only[go_sem,simprocAttr];rfl)),rfl⟩
 rintro n ⟨t,df⟩ h1 ⟨i,hn,hi,rfl,hf,g0,g1,g7,g8,hdf⟩
 simp only at g0 g1 g7 g8 hdf
 subst hdf
 simp(disch:=(try simp only[hN]);omega)only[go_sem,simprocAttr,g0,g1,g7,g8]
 (first|refine kA (fun hc=>?_) (fun hc=>?_)|refine kB (fun hc=>?_) (fun hc=>?_)|refine kC (fun hc=>?_) (fun hc=>?_)|refine kD (fun hc=>?_) (fun hc=>?_)|refine kE (fun hc=>?_) (fun hc=>?_)|refine kF (fun hc=>?_) (fun hc=>?_))
 ·have hlt:i<ws.length:=by simpa using hc
  have hd:ws.drop i=ws[i]::ws.drop (i+1):=List.drop_eq_getElem_cons hlt
  have hg:(ws.map AV.str)[i]?=some (.str ws[i]):=by simp [hlt]
  rw[hd] at hf
  have hlt':((i:Int)<(ws.length:Int))=True:=by simp [hlt]
  simp(disch:=(try simp only[hN]);omega)only[go_sem,simprocAttr,g0,g1,g7,g8,hc,hlt',hb,Nat.mul_one,hg]
  (first|refine kA (fun he=>?_) (fun he=>?_)|refine kB (fun he=>?_) (fun he=>?_)|refine kC (fun he=>?_) (fun he=>?_)|refine kD (fun he=>?_) (fun he=>?_)|refine kE (fun he=>?_) (fun he=>?_)|refine kF (fun he=>?_) (fun he=>?_))
  ·simp(disch:=(try simp only[hN]);omega)only[go_sem,simprocAttr,g0,g1,g7,g8,hc]
   simp only[findW,he,cond_true] at hf
   rw[←hf];exact hQ
  ·simp(disch:=(try simp only[hN]);omega)only[go_sem,simprocAttr,g0,g1,g7,g8,hc]
   simp only[findW,he,cond_false] at hf
   refine ⟨ws.length-(i+1),by omega,i+1,rfl,by omega,hf,?_⟩
   rfl
 ·have hge:ws.length≤i:=by simpa using hc
  have e:ws.drop i=[]:=List.drop_eq_nil_of_le hge
  rw[e] at hf
  simp(disch:=(try simp only[hN]);omega)only[go_sem,simprocAttr,hc]
  simp only[findW] at hf
  rw[←hf];exact hQ
theorem findW_contains (w:Bs):∀(ws:List Bs) (i:Nat),decide (findW w ws i≥0)=ws.contains w
 | [],i=>rfl
 | x::r,i=>by
  have ih:=findW_contains w r (i+1)
  by_cases e:w=x
  ·have h1:findW w (x::r) i=i:=by simp [findW,e]
   rw[h1];simp [e]
  ·have e':(w==x)=false:=beq_eq_false_iff_ne.2 e
   have h1:findW w (x::r) i=findW w r (i+1):=by simp only[findW,e',cond_false]
   rw[h1,ih];simp [e]
theorem sContains {ws:List Bs} {w:Bs} {b ver cap:Nat} {ex:Bool} {md:Md} {h:AHeap} (hb:h.get b=some ⟨ver,.cells md 1 (ws.map .str)⟩) (hl:ws.length<2^62) {Q:QR} (hQ:Q (.ret (.bool (ws.contains w))) h):WF F 45 [.slice b 0 ws.length cap ex,.str w] h Q:=by
 refine WF.code F45 rfl ?_
 simp(disch:=(try simp only[hN]);omega)only[go_sem,simprocAttr]
 refine sIndex hb hl ?_
 simp(disch:=(try simp only[hN]);omega)only[go_sem,simprocAttr]
 exact useB hQ (findW_contains _ _ _).symm
theorem key_spec {w:Bs} {h:AHeap} {Q:QR} (hQ:∀h',Fr h.n h h'→Q (.ret (.bool (keys.contains w))) h'):WF F 78 [.str w] h Q:=by
 refine WF.code F78 rfl ?_
 simp(disch:=(try simp only[hN]);omega)only[go_sem,simprocAttr]
 refine sContains (ws:=keys) (ver:=0) (md:=.own) (by (first|(simp(disch:=(try simp only[hN]);omega)only[go_sem,simprocAttr];done)|(simp(disch:=(try simp only[hN]);omega)only[go_sem,simprocAttr];rfl))) (by decide) ?_
 simp(disch:=(try simp only[hN]);omega)only[go_sem,simprocAttr]
 exact hQ _ (Fr.alloc (Fr.refl _ _) _)
theorem stop_spec {r e p:Nat} {h:AHeap} {Q:QR} (hQ:Q (tokStop e p) h):WF F 43 [.ptr r 0,errAV e,.int .i64 (p:Int)] h Q:=by
 refine WF.code F43 rfl ?_
 simp(disch:=(try simp only[hN]);omega)only[go_sem,simprocAttr]
 exact hQ
end Go.Ev
