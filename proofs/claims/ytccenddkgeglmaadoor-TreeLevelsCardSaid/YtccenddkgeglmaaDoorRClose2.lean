/- A slice of ints as an argument. -/
import Derived.Test.YtccenddkgeglmaaDoorEvC
import Derived.ChangeSlices
set_option linter.all false
set_option linter.unusedVariables false
set_option linter.unusedSimpArgs false
namespace Go.Ev
open Go

theorem shut_nil {H : Type} {enc : TypeId × Value → H} {P : Program} {w : World} {base : Nat} {spare : Nat → Bool} {held : Bool} {t e : TypeId} (ht : P.underlying t = some (.slice e)) : DataW.Trod enc P w base spare held t (.slice none 0 0) .nil [] :=
  ⟨1, by rw [DataW.trod_step]; unfold DataW.trodStep; simp [ht, Value.cells]⟩
theorem ints_obj {W : World} {a : Addr} {zs : List Int} (hpos : 0 < zs.length) (hcell : ∀ i, i < zs.length → W.cell? (a.add i) = some (.int .i64 (zs.getD i 0))) :
    a.spot = none ∧ a.block < W.heap.size ∧ ∀ ι I sz, ORel ι I sz W a.block a.off (.cells .ro 1 (zs.map (.int .i64))) := by
  obtain ⟨ab, ao, sp⟩ := a
  have h0 := hcell 0 hpos
  have hsp : sp = none := by simpa [Addr.add] using World.cell?_spot h0
  subst hsp
  have hc : ∀ i, i < zs.length → W.cell? ⟨ab, ao + i, none⟩ = some (.int .i64 (zs.getD i 0)) := fun i hi => by have := hcell i hi; rwa [Addr.add_lit] at this
  have h0 := hc 0 hpos
  unfold World.cell? at h0
  simp only at h0
  cases hb : W.heap[ab]? with
  | none => rw [hb] at h0; cases h0
  | some o =>
    cases o with
    | cells cs T q =>
      obtain ⟨lo, hi⟩ := q
      refine ⟨rfl, (Array.getElem?_eq_some_iff.1 hb).1, fun ι I sz => ⟨cs, T, lo, hi, hb, fun i x hx => ?_, fun h => absurd rfl h, fun h => by cases h⟩⟩
      rw [List.getElem?_map, Option.map_eq_some_iff] at hx
      obtain ⟨z, hz, rfl⟩ := hx
      have hil : i < zs.length := (List.getElem?_eq_some_iff.1 hz).1
      have h1 := hc i hil
      unfold World.cell? at h1
      simp only [hb] at h1
      refine ⟨_, by simpa using h1, ?_⟩
      simp [VR, hz, List.getD]
    | _ => rw [hb] at h0; cases h0
end Go.Ev
