/- The primitives are what the model does. -/
import Derived.Test.YteaoocedcjijdaaGreatDoorIs
import Derived.Test.YteaoocedcjijdaaGreatDoorPrims
import Derived.Test.YteaoocedcjijdaaGreatDoorEvB
import Derived.Lib.Bytealg
set_option linter.all false
set_option linter.unusedVariables false
set_option linter.unusedSimpArgs false
namespace Go.Ev
set_option maxRecDepth 100000
open Go Go.Proofs Go.Proofs.YteaoocedcjijdaaGreatDoor

theorem CallGives.value {P : Program} {f : FuncId} {args : Array Value} {w : World} {v : Value} {φ ψ : Value → World → Prop} (h : (callFunc f args).run P w = .ok (.value v) w) (hφ : φ v w) : CallGives P f args w φ ψ := by
  unfold CallGives
  rw [h]
  exact hφ

theorem findB_eq (c : UInt8) : ∀ (l : List UInt8) (i : Nat), findB c.toNat l i = if Lib.indexByte l c = -1 then -1 else Lib.indexByte l c + i
  | [], i => rfl
  | x :: l, i => by
    have ih := findB_eq c l (i + 1)
    have hge := Lib.indexByte_ge l c
    simp only [findB, Lib.indexByte]
    by_cases e : x = c
    · subst e
      simp
    · have e1 : x.toNat.beq c.toNat = false := beqF fun q => e (UInt8.toNat_inj.1 q)
      have e2 : (x == c) = false := beq_eq_false_iff_ne.2 e
      simp only [e1, e2, cond_false, ih, Bool.false_eq_true, if_false]
      by_cases e3 : Lib.indexByte l c = -1
      · simp [e3]
      · have e4 : ¬ (Lib.indexByte l c + 1 = -1) := by omega
        simp only [e3, if_false, beq_iff_eq, e4]
        omega
theorem findB_eq0 (c : UInt8) (l : List UInt8) : findB c.toNat l 0 = Lib.indexByte l c := by
  rw [findB_eq]
  split
  · rename_i h; exact h.symm
  · simp
theorem VRL.two {ι : Mp} {I : Nat → Info} {sz : Nat → Nat} {x y : AV} {args : Array Value} (h : VRL ι I sz [x, y] args.toList) : ∃ v u, args = #[v, u] ∧ VR ι I sz x v ∧ VR ι I sz y u := by
  obtain ⟨l⟩ := args
  simp only [VRL] at h
  obtain ⟨v, ys, e, h1, u, zs, e2, h2, e3⟩ := h
  have e' : l = [v, u] := by rw [e3] at e2; rw [e2] at e; exact e
  exact ⟨v, u, by rw [e'], h1, h2⟩
theorem Comes1.same {ι : Mp} {h : AHeap} {w : World} {x : AV} {v : Value} (hr : Rel ι h w) (hv : VR ι (infoOf h.get) (wsz w) x v) : Comes1 ι h w x h v w := ⟨ι, Step.refl _ _ _, hr, hv⟩

theorem pIdx_ok : PrimOk Tryz.prog 188 pIdx := by
  intro args h res h' hp ι w args' hG hr hv
  unfold pIdx at hp
  split at hp
  · rename_i s c
    cases hp
    obtain ⟨v, u, rfl, h1, h2⟩ := hv.two
    simp only [VR] at h1 h2
    subst h1 h2
    have he := @run_callFunc_extern Tryz.prog 188 _ Extern.BytealgIndexByte.indexByte Tryz.func188 (by kernel_rfl) (by kernel_rfl) (by kernel_rfl) (by kernel_rfl)
    refine CallGives.value (v := .int .i64 (findB (UInt8.ofNat c.toNat).toNat s 0)) ?_ ⟨_, rfl, Comes1.same hr (by simp only [VR])⟩
    rw [he, Lib.run_indexByteString, findB_eq0]
    rfl
  · cases hp
theorem pIdx_h : ∀ args h r h', pIdx args h = some (r, h') → HSt h h' := by
  intro args h r h' hp
  unfold pIdx at hp
  split at hp
  · cases hp; exact HSt.refl _
  · cases hp
end Go.Ev
