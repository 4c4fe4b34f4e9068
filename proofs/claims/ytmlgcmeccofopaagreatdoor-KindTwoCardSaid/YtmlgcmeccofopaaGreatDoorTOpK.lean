/- A struct of four ints as an argument. -/
import Derived.Test.YtmlgcmeccofopaaGreatDoorEvD
import Derived.Test.YtmlgcmeccofopaaGreatDoorTCl0
import Derived.Test.YtmlgcmeccofopaaGreatDoorTKa
set_option linter.all false
set_option linter.unusedVariables false
set_option linter.unusedSimpArgs false
namespace Go.Ev
open Go Go.RowKit Go.Proofs
set_option maxRecDepth 100000

/-- A dead block behind the others. -/
theorem rel_dead {ι : Mp} {h : AHeap} {W : World} (r : Rel ι h W) (no : NoOwn h) : Ext ι h ι (h.alloc .dead) ∧ Rel ι (h.alloc .dead) W ∧ NoOwn (h.alloc .dead) ∧ infoOf (h.alloc .dead).get h.n = .dead := by
  have e : Ext ι h ι (h.alloc .dead) := ⟨by simp, fun b hb => by rw [AHeap.get_alloc, if_neg (by omega)], fun b x hx => hx⟩
  have hinf : ∀ b, b ≠ h.n → infoOf (h.alloc .dead).get b = infoOf h.get b := fun b hb => by unfold infoOf; rw [AHeap.get_alloc, if_neg hb]
  have hnew : infoOf (h.alloc .dead).get h.n = .dead := by unfold infoOf; rw [AHeap.get_alloc, if_pos rfl]; rfl
  refine ⟨e, ?_, ?_, hnew⟩
  · exact {
      dom := fun b c' p' hb => by
        have := r.dom b c' p' hb; simp only [AHeap.alloc_n]; omega
      lt := fun b x hb => by
        rw [AHeap.get_alloc] at hb
        split at hb
        · simp only [AHeap.alloc_n]; omega
        · have := r.lt b x hb; simp only [AHeap.alloc_n]; omega
      obj := fun b c' p' hb => by
        have hne : b ≠ h.n := by have := r.dom b c' p' hb; omega
        obtain ⟨x, hx, h1, h2⟩ := r.obj b c' p' hb
        exact ⟨x, by rw [AHeap.get_alloc, if_neg hne]; exact hx, h1, ORel.mono (e.grow r _) rfl h2⟩
      inj := fun b b' c' p' p'' h1 h2 ow ow' => by
        have hne : b ≠ h.n := by have := r.dom b c' p' h1; omega
        obtain ⟨f, s, hb⟩ := ow
        rw [hinf b hne] at hb
        exact absurd ⟨f, s, hb⟩ (no b) }
  · rintro b ⟨f, s, hb⟩
    by_cases e1 : b = h.n
    · subst e1; rw [hnew] at hb; cases hb
    · rw [hinf b e1] at hb; exact no b ⟨f, s, hb⟩
section
variable {H : Type} {P : Program} {h : AHeap}
theorem DatR.agg_inv {t : TypeId} {fs : Array Field} (ht : P.underlying t = some (.struct fs)) {d : DataW H} {cs : List AV} (r : DatR P h t d cs) : ∃ ds, d = .agg ds ∧ cs.length = P.cellsOf t ∧ ds.length = fs.size ∧ ∀ (i : Nat) (f : Field) (d : DataW H), fs[i]? = some f → ds[i]? = some d → DatR P h f.type d ((cs.drop f.offset).take (P.cellsOf f.type)) := by
  cases r with
  | int h1 _ => rw [ht] at h1; cases h1
  | str h1 _ => rw [ht] at h1; cases h1
  | bool h1 => rw [ht] at h1; cases h1
  | nil h1 => rw [ht] at h1; cases h1
  | emp h1 => rw [ht] at h1; cases h1
  | slice h1 _ _ _ _ _ _ => rw [ht] at h1; cases h1
  | agg h1 h2 h3 h4 =>
    rw [ht] at h1
    cases h1
    exact ⟨_, rfl, h2, h3, h4⟩
end
section
variable {H : Type} {h : AHeap}
theorem kInt : Tryz.prog.cellsOf 3 = 1 := by kernel_rfl
theorem kTwo : Tryz.prog.cellsOf 59 = 4 := by kernel_rfl
theorem two_of {d : DataW H} {cs : List AV} (r : DatR Tryz.prog h 59 d cs) : ∃ n0 n1 n2 n3 : Int, cs = [.int .i64 n0, .int .i64 n1, .int .i64 n2, .int .i64 n3] := by
  obtain ⟨ds, rfl, hl, hd, hf⟩ := r.agg_inv Tryz.underlying59
  rw [kTwo] at hl
  match ds, hd with
  | [d0, d1, d2, d3], _ =>
    match cs, hl with
    | [c0, c1, c2, c3], _ =>
      obtain ⟨n0, e0, _⟩ := (hf 0 _ d0 rfl rfl).int_inv Tryz.underlying3
      obtain ⟨n1, e1, _⟩ := (hf 1 _ d1 rfl rfl).int_inv Tryz.underlying3
      obtain ⟨n2, e2, _⟩ := (hf 2 _ d2 rfl rfl).int_inv Tryz.underlying3
      obtain ⟨n3, e3, _⟩ := (hf 3 _ d3 rfl rfl).int_inv Tryz.underlying3
      replace e0 : List.take (Tryz.prog.cellsOf 3) (List.drop 0 [c0, c1, c2, c3]) = [.int .i64 n0] := e0
      replace e1 : List.take (Tryz.prog.cellsOf 3) (List.drop 1 [c0, c1, c2, c3]) = [.int .i64 n1] := e1
      replace e2 : List.take (Tryz.prog.cellsOf 3) (List.drop 2 [c0, c1, c2, c3]) = [.int .i64 n2] := e2
      replace e3 : List.take (Tryz.prog.cellsOf 3) (List.drop 3 [c0, c1, c2, c3]) = [.int .i64 n3] := e3
      simp only [kInt, List.drop_zero, List.drop_succ_cons, List.take_succ_cons, List.take_zero, List.cons.injEq, and_true] at e0 e1 e2 e3
      subst e0 e1 e2 e3
      exact ⟨_, _, _, _, rfl⟩
end
end Go.Ev
