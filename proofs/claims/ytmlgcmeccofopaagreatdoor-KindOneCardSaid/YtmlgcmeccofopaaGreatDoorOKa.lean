/- The statement's example, run once. -/
import Derived.Test.YtmlgcmeccofopaaGreatDoorOQE
import Derived.Test.YtmlgcmeccofopaaGreatDoorOQC
import Derived.Test.YtmlgcmeccofopaaGreatDoorEvD
set_option linter.all false
set_option linter.unusedVariables false
set_option linter.unusedSimpArgs false
namespace Go.Ev
open Go
set_option maxRecDepth 100000

theorem F0A {f : Nat} {m : MFun} (h : tbl.get f = some m) : F0 f = some m := by
  unfold F0
  by_cases e : f = fAl
  · subst e
    rw [tA] at h
    cases h
  · rw [beqF e]
    exact h
theorem FA {f : Nat} {m : MFun} (h : tbl.get f = some m) : F f = some m := by
  unfold F
  by_cases e : f = fAl
  · subst e
    rw [tA] at h
    cases h
  · rw [beqF e]
    exact h
theorem alive_run : h22 (feCall ftbl 60) (feDefs ftbl 60) 60 [] hq isT noB = true := by kernel_rfl
theorem alive_ev : ∃ k h1, evCall F0 k fAl [] hq = some (.ret (.bool true), h1) := by
  have w : WF F0 fAl [] hq (resB isT noB) := fe_run (ftbl_ok fun f m h => F0A h) (m := mAl) rfl e22 alive_run
  obtain ⟨r, h', ⟨k0, e⟩, q⟩ := w.ev
  rw [isT_of q] at e
  exact ⟨k0, h', e k0 (Nat.le_refl _)⟩
theorem gAl_ok : ∀ args r, gAl args = some r → PlainL args ∧ Plain r ∧ ∃ k h1, evCall F0 k fAl args hq = some (.ret r, h1) := by
  intro args r e
  cases args with
  | nil =>
    cases e
    exact ⟨plainL_nil, plain_bool true, alive_ev⟩
  | cons a l => cases e
theorem alive_spec {Q : QR} {h : AHeap} (hl : LowEq hq h) (hQ : Q (.ret (.bool true)) h) : WF F fAl [] h Q := WF.prim (p := pAl) rfl (runP_eq rfl hl) hQ
theorem fT : TOk F ftbl := ftbl_ok fun _ _ h => FA h
end Go.Ev
/- The table with the example as a primitive stands for the program. -/
namespace Go.Ev
open Go Go.Proofs
set_option maxRecDepth 100000
theorem FA_inv {f : Nat} {m : MFun} (h : F f = some m) : (f = fAl ∧ m = .prim pAl) ∨ tbl.get f = some m := by
  unfold F at h
  by_cases e : f = fAl
  · subst e
    rw [Nat.beq_refl] at h
    cases h
    exact .inl ⟨rfl, rfl⟩
  · rw [beqF e] at h
    exact .inr h
theorem F0_inv {f : Nat} {m : MFun} (h : F0 f = some m) : (f = fAl ∧ m = mAl) ∨ tbl.get f = some m := by
  unfold F0 at h
  by_cases e : f = fAl
  · subst e
    rw [Nat.beq_refl] at h
    cases h
    exact .inl ⟨rfl, rfl⟩
  · rw [beqF e] at h
    exact .inr h
theorem fok0 : FOk Tryz.prog F0 := fun f m h => by
  rcases F0_inv h with ⟨rfl, rfl⟩ | h
  · exact fokAl
  · exact fokT f m h
theorem prims0 : PrimsH F0 := fun f p h => by
  rcases F0_inv h with ⟨rfl, e⟩ | h
  · cases e
  · exact primsT f p h
theorem globs_le : Tryz.prog.globals.size ≤ hq.n := by
  have h : Nat.ble Tryz.prog.globals.size (21 + 17) = true := by kernel_rfl
  exact Nat.le_of_ble_eq_true h
theorem fokF : FOk Tryz.prog F := fun f m h => by
  rcases FA_inv h with ⟨rfl, rfl⟩ | h
  · exact runP_ok fok0 prims0 hmix lowOk globs_le gAl_ok
  · exact fokT f m h
theorem primsF : PrimsH F := fun f p h => by
  rcases FA_inv h with ⟨rfl, e⟩ | h
  · cases e
    exact fun args h r h' e => runP_h e
  · exact primsT f p h
end Go.Ev
/- Numbers made small; what the statements on types have in common. -/
namespace Go.Ev
open Go
set_option maxRecDepth 100000
set_option maxHeartbeats 4000000

theorem wr_nn (n : Int) : 0 ≤ wr .u64 n := by
  unfold wr
  cases h : fits .u64 n with
  | true =>
    simp only [fits, Bool.and_eq_true, decide_eq_true_eq] at h
    exact h.1
  | false =>
    show 0 ≤ IntKind.u64.wrap n
    unfold IntKind.wrap
    simp only [IntKind.signed, IntKind.bits]
    first | exact Int.natCast_nonneg _ | exact Int.emod_nonneg _ (by decide)
theorem modv (n : Int) (m : Nat) (hm : 0 < m) (hm2 : m ≤ 1000) : ∃ a : Nat, a < m ∧ wr .i64 ((wr .u64 n).tmod (m : Int)) = Int.ofNat a := by
  obtain ⟨x, hx⟩ := Int.eq_ofNat_of_zero_le (wr_nn n)
  refine ⟨x % m, Nat.mod_lt _ hm, ?_⟩
  rw [hx, ← Int.ofNat_tmod]
  have h1 : x % m < m := Nat.mod_lt _ hm
  unfold wr
  have h2 : fits .i64 ((x % m : Nat) : Int) = true := by
    simp only [fits, Bool.and_eq_true, decide_eq_true_eq]
    omega
  rw [h2]
  rfl

noncomputable def hK : AHeap := alQ hq (.cells .own 1 [.str [105], .str [102], .str [98]])
theorem all3 {f : Nat → Bool} (h : [0, 1, 2].all f = true) {a : Nat} (ha : a < 3) : f a = true := by
  simp only [List.all_cons, List.all_nil, Bool.and_true, Bool.and_eq_true] at h
  obtain ⟨h0, h1, h2⟩ := h
  match a, ha with
  | 0, _ => exact h0
  | 1, _ => exact h1
  | 2, _ => exact h2
end Go.Ev
