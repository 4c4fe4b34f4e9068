/- The statement's example, run once. -/
import Derived.Test.YtmlgcmeccofopaaGreatDoorTQE
import Derived.Test.YtmlgcmeccofopaaGreatDoorTQC
set_option linter.all false
set_option linter.unusedVariables false
set_option linter.unusedSimpArgs false
namespace Go.Ev
open Go
set_option maxRecDepth 100000

theorem F0A {f : Nat} {m : MFun} (h : tbl.get f = some m) : F0 f = some m := by
  unfold F0
  by_cases e : f = fAl
  · subst e
    rw [tA] at h
    cases h
  · rw [beqF e]
    exact h
theorem FA {f : Nat} {m : MFun} (h : tbl.get f = some m) : F f = some m := by
  unfold F
  by_cases e : f = fAl
  · subst e
    rw [tA] at h
    cases h
  · rw [beqF e]
    exact h
theorem alive_run : h22 (feCall ftbl 60) (feDefs ftbl 60) 60 [] hq isT noB = true := by kernel_rfl
theorem alive_ev : ∃ k h1, evCall F0 k fAl [] hq = some (.ret (.bool true), h1) := by
  have w : WF F0 fAl [] hq (resB isT noB) := fe_run (ftbl_ok fun f m h => F0A h) (m := mAl) rfl e22 alive_run
  obtain ⟨r, h', ⟨k0, e⟩, q⟩ := w.ev
  rw [isT_of q] at e
  exact ⟨k0, h', e k0 (Nat.le_refl _)⟩
theorem gAl_ok : ∀ args r, gAl args = some r → PlainL args ∧ Plain r ∧ ∃ k h1, evCall F0 k fAl args hq = some (.ret r, h1) := by
  intro args r e
  cases args with
  | nil =>
    cases e
    exact ⟨plainL_nil, plain_bool true, alive_ev⟩
  | cons a l => cases e
theorem alive_spec {Q : QR} {h : AHeap} (hl : LowEq hq h) (hQ : Q (.ret (.bool true)) h) : WF F fAl [] h Q := WF.prim (p := pAl) rfl (runP_eq rfl hl) hQ
theorem fT : TOk F ftbl := ftbl_ok fun _ _ h => FA h
end Go.Ev
/- The table with the example as a primitive stands for the program. -/
namespace Go.Ev
open Go Go.Proofs
set_option maxRecDepth 100000
theorem FA_inv {f : Nat} {m : MFun} (h : F f = some m) : (f = fAl ∧ m = .prim pAl) ∨ tbl.get f = some m := by
  unfold F at h
  by_cases e : f = fAl
  · subst e
    rw [Nat.beq_refl] at h
    cases h
    exact .inl ⟨rfl, rfl⟩
  · rw [beqF e] at h
    exact .inr h
theorem F0_inv {f : Nat} {m : MFun} (h : F0 f = some m) : (f = fAl ∧ m = mAl) ∨ tbl.get f = some m := by
  unfold F0 at h
  by_cases e : f = fAl
  · subst e
    rw [Nat.beq_refl] at h
    cases h
    exact .inl ⟨rfl, rfl⟩
  · rw [beqF e] at h
    exact .inr h
theorem fok0 : FOk Tryz.prog F0 := fun f m h => by
  rcases F0_inv h with ⟨rfl, rfl⟩ | h
  · exact fokAl
  · exact fokT f m h
theorem prims0 : PrimsH F0 := fun f p h => by
  rcases F0_inv h with ⟨rfl, e⟩ | h
  · cases e
  · exact primsT f p h
theorem globs_le : Tryz.prog.globals.size ≤ hq.n := by
  have h : Nat.ble Tryz.prog.globals.size (21 + 17) = true := by kernel_rfl
  exact Nat.le_of_ble_eq_true h
theorem fokF : FOk Tryz.prog F := fun f m h => by
  rcases FA_inv h with ⟨rfl, rfl⟩ | h
  · exact runP_ok fok0 prims0 hmix lowOk globs_le gAl_ok
  · exact fokT f m h
theorem primsF : PrimsH F := fun f p h => by
  rcases FA_inv h with ⟨rfl, e⟩ | h
  · cases e
    exact fun args h r h' e => runP_h e
  · exact primsT f p h
end Go.Ev
