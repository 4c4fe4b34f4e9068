/- strconv.Itoa as a primitive: it stands for the library's text. -/
import Derived.Test.YteaoocedcjijdaaGreatDoorSEPb2
import Derived.Lib.ItoaNum
import Derived.Lib.AppendIntMem
set_option linter.all false
set_option linter.unusedVariables false
set_option linter.unusedSimpArgs false
namespace Go.Ev
open Go Go.Proofs Go.Proofs.YteaoocedcjijdaaGreatDoor Go.RowKit
set_option maxRecDepth 100000
theorem dg_dec {u:Nat} (h:u<10):dgB u=UInt8.ofNat (48+u):=by
 have:(List.range 10).all (fun u=>dgB u==UInt8.ofNat (48+u))=true:=by decide
 simpa using List.all_eq_true.1 this u (List.mem_range.2 h)
theorem digN_dec:∀(f u:Nat),u<10^f→digN 10 f u=if f=0 then digN 10 f u else Lib.decDigits u:=by
 intro f
 induction f with
 | zero=>intro u _;rw[if_pos rfl]
 | succ f ih=>
  intro u hu
  rw[if_neg (by omega),Lib.decDigits]
  by_cases h0:u=0
  ·subst h0;rfl
  ·unfold digN
   rw[if_neg h0]
   simp only[digD,if_neg h0]
   by_cases h10:u<10
   ·rw[dif_pos h10,Nat.div_eq_of_lt h10,digD_zero,Nat.mod_eq_of_lt h10,dg_dec h10];rfl
   ·rw[dif_neg h10,dg_dec (Nat.mod_lt _ (by omega))]
    have hu2:u / 10<10^f:=by rw[Nat.pow_succ] at hu;omega
    have h2:=ih (u / 10) hu2
    unfold digN at h2
    rw[if_neg (by omega)] at h2
    by_cases hf:f=0
    ·subst hf;simp at hu2;omega
    ·rw[if_neg hf] at h2
     rw[h2]
theorem eqInts_rel {ι:Mp} {I:Nat→Info} {sz:Nat→Nat}:∀{vs:List AV} {zs:List Int} {l:List Value},eqInts vs zs=true→VRL ι I sz vs l→l=zs.map fun z=>Value.int .u64 z
 | [],[],l,_,h=>by simp only[VRL] at h;subst h;rfl
 | [],_::_,_,h,_=>by cases h
 | x::vs,zs,l,h,hv=>by
  cases x<;>try (cases zs<;>cases h;done)
  rename_i k n
  cases k<;>try (cases zs<;>cases h;done)
  cases zs with
  | nil=>cases h
  | cons z zs=>
   simp only[eqInts,Bool.and_eq_true,decide_eq_true_eq] at h
   simp only[VRL,VR] at hv
   obtain ⟨y,ys,rfl,rfl,h2⟩:=hv
   rw[eqInts_rel h.2 h2,h.1]
   rfl
theorem tab_is {ι:Mp} {h:AHeap} {w:World} (hr:Rel ι h w) (hG:Glob Tryz.prog ι) {ver es:Nat} {vs:List AV} (hb:h.get 17=some ⟨ver,.cells .tab es vs⟩) (he:eqInts vs pow10L=true):Lib.TabIs Tryz.prog w "internal/strconv.uint64pow10" .u64 Lib.pow10Tab:=by
 have hi:=hG 17 (show _<Tryz.prog.globals.size from of_decide_eq_true (by kernel_rfl))
 obtain ⟨y,hy,_,hob⟩:=hr.obj _ _ _ hi
 rw[hb] at hy
 cases hy
 obtain ⟨cs,T,lo,hi2,g1,g2,_,_,g5⟩:=hob
 obtain ⟨_,hsz⟩:=g5 rfl
 have hv:VRL ι (infoOf h.get) (wsz w) vs cs.toList:=VRL.of_get _ _ (by simpa using hsz.symm) fun i x v hx hv=>by
  obtain ⟨v',q1,q2⟩:=g2 i x hx
  rw[Nat.zero_add] at q1
  have:cs[i]?=some v:=by simpa using hv
  rw[this] at q1
  cases q1;exact q2
 have hl:=eqInts_rel he hv
 unfold Lib.TabIs World.var?
 rw[show Tryz.prog.globalNamed "internal/strconv.uint64pow10"=some 17 by kernel_rfl,Option.bind_some,g1]
 show some cs=_
 rw[show Lib.pow10Tab=pow10L from rfl,←hl]
theorem pIt_ok:PrimOk Tryz.prog 99 pIt:=by
 intro args h res h' hp ι w args' hG hr hv
 unfold pIt at hp
 split at hp
 ·rename_i n
  split at hp
  ·rename_i ver es vs hb
   cases hq:(eqInts vs pow10L&&decide (0≤n)&&decide (n≤9223372036854775807)) with
   | false=>rw[hq] at hp;cases hp
   | true=>
    rw[hq] at hp
    cases hp
    simp only[Bool.and_eq_true,decide_eq_true_eq] at hq
    obtain ⟨⟨he,h0⟩,h1⟩:=hq
    obtain ⟨v,rfl,hv1⟩:=hv.one
    simp only[VR] at hv1
    subst hv1
    have htab:=tab_is hr hG hb he
    have hc:=Any.strconv_Itoa Tryz.laysM171 n (by omega) h1 w htab
    have hit:Lib.itoa n=digN 10 20 n.toNat:=by
     rw[digN_dec 20 n.toNat (by omega),if_neg (by omega)]
     unfold Lib.itoa
     rw[if_neg (by omega)]
    refine calls_gives Tryz.func99 rfl (by kernel_rfl) hc fun w' hb2=>?_
    obtain ⟨k,os,rfl⟩:=hb2
    obtain ⟨st,r'⟩:=hr.below (Lib.below_grow w.heap.size w (Nat.le_refl _) k os)
    exact ⟨_,rfl,ι,st,r',by simp only[VR,hit]⟩
  ·cases hp
 ·cases hp
theorem pIt_h:∀args h r h',pIt args h=some (r,h')→HSt h h':=by
 intro args h r h' e
 unfold pIt at e
 split at e
 ·split at e
  ·have e:=bif_some e
   cases e;exact HSt.refl _
  ·cases e
 ·cases e
end Go.Ev
