/- Rows of elements of a size: where an element's cells stand. -/
import Derived.Test.YtccenddkgeglmaaDoorEvC
set_option linter.all false
set_option linter.unusedVariables false
set_option linter.unusedSimpArgs false
namespace Go.Ev
section
variable {α : Type} {f : α → List AV} {k : Nat}

theorem flat_len (hf : ∀ x, (f x).length = k) : ∀ l : List α, (l.flatMap f).length = l.length * k
  | [] => by simp
  | x :: l => by rw [List.flatMap_cons, List.length_append, hf, flat_len hf l, List.length_cons, Nat.succ_mul, Nat.add_comm]
theorem flat_drop (hf : ∀ x, (f x).length = k) : ∀ (l : List α) (i : Nat), (l.flatMap f).drop (i * k) = (l.drop i).flatMap f
  | l, 0 => by simp
  | [], i + 1 => by simp
  | x :: l, i + 1 => by
    rw [List.flatMap_cons, List.drop_succ_cons, ← flat_drop hf l i, Nat.succ_mul, Nat.add_comm, ← hf x, List.drop_append]
    simp
theorem flat_get (hf : ∀ x, (f x).length = k) {l : List α} {i j : Nat} {x : α} (hx : l[i]? = some x) (hj : j < k) : (l.flatMap f)[i * k + j]? = (f x)[j]? := by
  obtain ⟨hi, rfl⟩ := List.getElem?_eq_some_iff.1 hx
  rw [← List.getElem?_drop, flat_drop hf, List.drop_eq_getElem_cons hi, List.flatMap_cons, List.getElem?_append_left (by rw [hf]; exact hj)]
theorem flat_row (hf : ∀ x, (f x).length = k) {l : List α} {i : Nat} {x : α} (hx : l[i]? = some x) : row (l.flatMap f) (i * k) k = some (f x) := by
  obtain ⟨hi, rfl⟩ := List.getElem?_eq_some_iff.1 hx
  have hlen := flat_len hf l
  have hle : i * k + k ≤ (l.flatMap f).length := by
    rw [hlen, ← Nat.succ_mul]
    exact Nat.mul_le_mul_right k hi
  unfold row
  rw [Nat.ble_eq_true_of_le hle, flat_drop hf, List.drop_eq_getElem_cons hi, List.flatMap_cons, List.take_append_of_le_length (by rw [hf]; exact Nat.le_refl _), List.take_of_length_le (by rw [hf]; exact Nat.le_refl _)]
  rfl
theorem flat_set (hf : ∀ x, (f x).length = k) {y : α} {c : AV} {j : Nat} (hj : j < k) : ∀ {l : List α} {i : Nat} {x : α}, l[i]? = some x → f y = (f x).set j c → (l.flatMap f).set (i * k + j) c = (l.set i y).flatMap f
  | [], i, x, hx, _ => by simp at hx
  | z :: l, 0, x, hx, hy => by
    simp at hx
    subst hx
    rw [Nat.zero_mul, Nat.zero_add, List.set_cons_zero, List.flatMap_cons, List.flatMap_cons, hy, List.set_append_left _ _ (by rw [hf]; exact hj)]
  | z :: l, i + 1, x, hx, hy => by
    simp at hx
    rw [List.set_cons_succ, List.flatMap_cons, List.flatMap_cons, ← flat_set hf hj hx hy, List.set_append_right _ _ (by rw [hf, Nat.succ_mul]; omega)]
    congr 2
    rw [hf, Nat.succ_mul]; omega
theorem lay_one {vs : List AV} {o : Nat} {c : AV} (ho : o < vs.length) : lay vs o [c] = some (vs.set o c) := by
  unfold lay
  rw [Nat.ble_eq_true_of_le (show o + [c].length ≤ vs.length by simp only [List.length_cons, List.length_nil]; omega)]
  simp only [cond_true, List.length_cons, List.length_nil, Nat.zero_add]
  congr 1
  rw [List.set_eq_take_append_cons_drop, if_pos ho]
  rfl
theorem lay_row {vs cs : List AV} {o : Nat} (ho : o + cs.length ≤ vs.length) : lay vs o cs = some (vs.take o ++ (cs ++ vs.drop (o + cs.length))) := by
  unfold lay
  rw [Nat.ble_eq_true_of_le ho]
  rfl
theorem flat_lay (hf : ∀ x, (f x).length = k) {y : α} {c : AV} {j : Nat} (hj : j < k) {l : List α} {i : Nat} {x : α} (hx : l[i]? = some x) (hy : f y = (f x).set j c) : lay (l.flatMap f) (i * k + j) [c] = some ((l.set i y).flatMap f) := by
  have hi := (List.getElem?_eq_some_iff.1 hx).1
  have hle : i * k + k ≤ (l.flatMap f).length := by
    rw [flat_len hf l, ← Nat.succ_mul]
    exact Nat.mul_le_mul_right k hi
  rw [lay_one (by omega), flat_set hf hj hx hy]
end
end Go.Ev
