/- The table with the example as a primitive stands for the program. -/
import Derived.Test.YteaoocedcjijdaaGreatDoorSEQC
import Derived.Test.YteaoocedcjijdaaGreatDoorSEKa
set_option linter.all false
set_option linter.unusedVariables false
set_option linter.unusedSimpArgs false
namespace Go.Ev
open Go Go.Proofs
set_option maxRecDepth 100000
theorem FA_inv {f:Nat} {m:MFun} (h:F f=some m):(f=fAl∧m=.prim pAl)∨tbl.get f=some m:=by
 unfold F at h
 by_cases e:f=fAl
 ·subst e
  rw[Nat.beq_refl] at h
  cases h
  exact .inl ⟨rfl,rfl⟩
 ·rw[beqF e] at h
  exact .inr h
theorem F0_inv {f:Nat} {m:MFun} (h:F0 f=some m):(f=fAl∧m=mAl)∨tbl.get f=some m:=by
 unfold F0 at h
 by_cases e:f=fAl
 ·subst e
  rw[Nat.beq_refl] at h
  cases h
  exact .inl ⟨rfl,rfl⟩
 ·rw[beqF e] at h
  exact .inr h
theorem fok0:FOk Tryz.prog F0:=fun f m h=>by
 rcases F0_inv h with ⟨rfl,rfl⟩|h
 ·exact fokAl
 ·exact fokT f m h
theorem prims0:PrimsH F0:=fun f p h=>by
 rcases F0_inv h with ⟨rfl,e⟩|h
 ·cases e
 ·exact primsT f p h
theorem globs_le:Tryz.prog.globals.size≤hq.n:=by
 have h:Nat.ble Tryz.prog.globals.size (21+17)=true:=by kernel_rfl
 exact Nat.le_of_ble_eq_true h
theorem fokF:FOk Tryz.prog F:=fun f m h=>by
 rcases FA_inv h with ⟨rfl,rfl⟩|h
 ·exact runP_ok fok0 prims0 hmix lowOk globs_le gAl_ok
 ·exact fokT f m h
theorem primsF:PrimsH F:=fun f p h=>by
 rcases FA_inv h with ⟨rfl,e⟩|h
 ·cases e
  exact fun args h r h' e=>runP_h e
 ·exact primsT f p h
end Go.Ev
