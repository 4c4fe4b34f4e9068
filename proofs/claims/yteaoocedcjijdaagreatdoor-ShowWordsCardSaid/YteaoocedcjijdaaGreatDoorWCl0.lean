/- The seat's errors, as its initialisers lay them. -/
import Derived.Test.YteaoocedcjijdaaGreatDoorWQC
import Derived.Test.YteaoocedcjijdaaGreatDoorWKd
import Derived.Test.YteaoocedcjijdaaGreatDoorRows
import Derived.LaidMore
import Derived.OpenShut
import Derived.Stop.Joined
set_option linter.all false
set_option linter.unusedVariables false
set_option linter.unusedSimpArgs false
namespace Go.Ev
open Go Go.Proofs Go.Proofs.YteaoocedcjijdaaGreatDoor Go.ChangeShapes Go.WideShapes Go.ChangeAt Go.RowKit
set_option maxRecDepth 100000

theorem dOwn : ownKnob Tryz.prog.godebug = none := by kernel_rfl
def gOrder : List Nat := [2, 3, 4, 7, 0]
def gNames : List String := ["stockade/api.ErrRange", "stockade/api.ErrText", "stockade/api.ErrDepth", "stockade/api.ErrLarge", "stockade/api.ErrCode"]
def gPairs : List (String × List UInt8) := gNames.zip (gOrder.map txt)
theorem gNamed : gPairs.map (fun x => Tryz.prog.globalNamed x.1) = gOrder.map some := by kernel_rfl
theorem gTypes : ∀ g ∈ gOrder, (Tryz.prog.globals[g]?).map (·.type) = some 35 := by
  have h : (gOrder.all fun g => (Tryz.prog.globals[g]?).map (·.type) == some 35) = true := by kernel_rfl
  intro g hg
  simpa using List.all_eq_true.1 h g hg
theorem gStar : "*" ++ "errors.errorString" = "*errors.errorString" := by decide
theorem gRow (u : TypeId) (h : Tryz.prog.typeName? 3 u = some "*errors.errorString") : u = 218 :=
  typeName_ptr_named (nm := "errors.errorString") (by rw [gStar]; kernel_rfl) (by kernel_rfl) (by decide) u (by rw [gStar]; exact h)
theorem gSize : Tryz.prog.globals.size = 21 := by kernel_rfl
theorem gPlain : Tryz.prog.globals.size < (begin Tryz.prog (fun _ _ => 0) default).world.heap.size := of_decide_eq_true (by kernel_rfl)
theorem gIdx : ∀ g : Nat, knG g = true → ∃ i : Nat, gOrder[i]? = some g ∧ (gPairs[i]?).map (fun x : String × List UInt8 => x.2) = some (txt g) := by
  intro g hg
  have h : (List.range 17).all (fun g => !knG g || (List.range 17).any fun i => gOrder[i]? == some g && (gPairs[i]?).map (fun x : String × List UInt8 => x.2) == some (txt g)) = true := by decide +kernel
  have h1 := List.all_eq_true.1 h g (List.mem_range.2 (knG_lt hg))
  rw [hg, Bool.not_true, Bool.false_or] at h1
  obtain ⟨i, _, h2⟩ := List.any_eq_true.1 h1
  simp only [Bool.and_eq_true, beq_iff_eq] at h2
  exact ⟨i, h2⟩
theorem laid_tail {W : World} : laidMet Tryz.prog Rows.showWordsRow.laid W → laidMet Tryz.prog (gPairs.map (laidRow "*errors.errorString")) W := fun h => h.tail.tail.tail
theorem sents {W : World} (h : laidMet Tryz.prog (gPairs.map (laidRow "*errors.errorString")) W) : ∃ c o : Nat → Nat, (∀ g, g < 17 → knG g = true → SentAt W 218 g (txt g) (c g) (o g)) ∧ ∀ g, knG g = false → c g = 0 := by
  have key : ∀ g, ∃ co : Nat × Nat, (knG g = true → SentAt W 218 g (txt g) co.1 co.2) ∧ (knG g = false → co.1 = 0) := by
    intro g
    cases hg : knG g with
    | true =>
      obtain ⟨i, h1, h2⟩ := gIdx g hg
      obtain ⟨c, o, hs⟩ := laid_all Tryz.underlying35 gRow Tryz.underlying218 Tryz.underlying240 rfl rfl Tryz.underlying9 (by kernel_rfl) (by kernel_rfl) gPairs gOrder h gNamed gTypes i g (txt g) h1 h2
      exact ⟨(c, o), fun _ => hs, fun q => (by cases q)⟩
    | false => exact ⟨(0, 0), (fun q => by cases q), fun _ => rfl⟩
  exact ⟨fun g => (Classical.choose (key g)).1, fun g => (Classical.choose (key g)).2, fun g _ hg => (Classical.choose_spec (key g)).1 hg, fun g hg => (Classical.choose_spec (key g)).2 hg⟩
noncomputable abbrev hp0 (m : Nat) (xs : Nat → AObj) : AHeap := heap0 218 Tryz.prog.globals.size 17 knG txt m xs
/-- The door's own heap meets the condition. -/
theorem door_met (os : Os) (args : Array Value) : laidMetH Tryz.prog Rows.showWordsRow.laid ((World.doorLaid Tryz.prog 400 os).forCall (fun _ _ => 0) ⟨#[], args, []⟩).memory :=
  laidMetH_of_parts3 (fuel := 8) (laidMet_of_run' 8 (by kernel_rfl) (by kernel_rfl)) (by kernel_rfl) (by kernel_rfl)
theorem str_small {H : Type} {P : Program} {t : TypeId} {ts : List TypeId} {b : List UInt8} {ds : List (DataW H)} (h : (DataW.weightsEach P (t :: ts) (.lit (.string b) :: ds)).all (· ≤ reachBytes) = true) : b.length < 2 ^ 61 := by
  have h1 : b.length ≤ reachBytes := by
    simp only [DataW.weightsEach, DataW.weights, List.all_append, List.all_cons, List.all_nil, Bool.and_eq_true, decide_eq_true_eq, Bool.and_true] at h
    exact h.1
  have h2 : reachBytes < 2 ^ 61 := by decide
  omega
end Go.Ev
