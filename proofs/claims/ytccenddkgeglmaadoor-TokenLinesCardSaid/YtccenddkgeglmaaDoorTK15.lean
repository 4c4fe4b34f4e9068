/- The statement on lines and columns, and on keywords. -/
import Derived.Test.YtccenddkgeglmaaDoorTK11
set_option linter.all false
set_option linter.unusedVariables false
set_option linter.unusedSimpArgs false
namespace Go.Ev
open Go
set_option maxRecDepth 100000
set_option maxHeartbeats 4000000

theorem refKey {w : Bs} {h : AHeap} {Q : QR} (hQ : Q (.ret (.bool (keys.contains w))) h) : WF F 24 [.str w] h Q := by
  refine WF.code F24 rfl ?_
  simp (maxSteps := 1000000) (disch := first | omega | (simp only [AHeap.alloc_n, AHeap.upd_n, List.length_cons, List.length_nil, List.length_append] <;> omega) | fail) only [go_sem, reduceIte, Nat.reduceAdd, Nat.reduceEqDiff, Nat.reduceDiv, Nat.reduceMod, Nat.reducePow, Nat.reduceSub, Nat.reduceMul, Nat.reduceLeDiff, beq_self_eq_true, bne_self_eq_false, Int.reduceBEq, Int.reduceBNe, Int.reduceLE, Int.reduceLT, Int.reduceToNat, Int.reduceAdd, Int.reduceSub]
  iterate 23
    (first | refine condP_splitN (fun hb => ?_) (fun hb => ?_) | refine wantP_splitN (fun hb => ?_) (fun hb => ?_) | refine wantPD_splitN (fun hb => ?_) (fun hb => ?_) | refine condP_split (fun hb => ?_) (fun hb => ?_) | refine wantP_split (fun hb => ?_) (fun hb => ?_) | refine wantPD_split (fun hb => ?_) (fun hb => ?_))
    · have e := eq_of_beq hb
      subst e
      simp (maxSteps := 1000000) (disch := first | omega | (simp only [AHeap.alloc_n, AHeap.upd_n, List.length_cons, List.length_nil, List.length_append] <;> omega) | fail) only [go_sem, reduceIte, Nat.reduceAdd, Nat.reduceEqDiff, Nat.reduceDiv, Nat.reduceMod, Nat.reducePow, Nat.reduceSub, Nat.reduceMul, Nat.reduceLeDiff, beq_self_eq_true, bne_self_eq_false, Int.reduceBEq, Int.reduceBNe, Int.reduceLE, Int.reduceLT, Int.reduceToNat, Int.reduceAdd, Int.reduceSub]
      exact useB hQ (by decide)
    simp (maxSteps := 1000000) (disch := first | omega | (simp only [AHeap.alloc_n, AHeap.upd_n, List.length_cons, List.length_nil, List.length_append] <;> omega) | fail) only [go_sem, reduceIte, Nat.reduceAdd, Nat.reduceEqDiff, Nat.reduceDiv, Nat.reduceMod, Nat.reducePow, Nat.reduceSub, Nat.reduceMul, Nat.reduceLeDiff, beq_self_eq_true, bne_self_eq_false, Int.reduceBEq, Int.reduceBNe, Int.reduceLE, Int.reduceLT, Int.reduceToNat, Int.reduceAdd, Int.reduceSub, hb]
  exact useB hQ (by simp only [keys, List.contains_cons, List.contains_nil, *, Bool.or_self, Bool.or_false])

theorem mx_max {k k' : IntKind} {a b : Int} : mxA true (.int k a) [.int k' b] = some (.int k (max a b)) := by
  simp only [mxA, cond_true]
  congr 2
  by_cases h : b > a
  · rw [decide_eq_true h]; simp only [cond_true]; omega
  · rw [decide_eq_false h]; simp only [cond_false]; omega
theorem mx_min {k k' : IntKind} {a b : Int} : mxA false (.int k a) [.int k' b] = some (.int k (min a b)) := by
  simp only [mxA, cond_false]
  congr 2
  by_cases h : b < a
  · rw [decide_eq_true h]; simp only [cond_true]; omega
  · rw [decide_eq_false h]; simp only [cond_false]; omega

/-- The last place of a byte: -1, if it doesn't stand there. -/
def LastAt (s : Bs) (c : UInt8) (r : Int) : Prop := (r = -1 ∧ ∀ (j : Nat) (x : UInt8), s[j]? = some x → x ≠ c) ∨ (∃ i : Nat, r = (i : Int) ∧ s[i]? = some c ∧ ∀ (j : Nat) (x : UInt8), i < j → s[j]? = some x → x ≠ c)
theorem lastByte {s : Bs} {c : UInt8} {h : AHeap} (hlen : s.length < 2 ^ 62) {Q : QR} (hQ : ∀ r, LastAt s c r → Q (.ret (.int .i64 r)) h) : WF F 44 [.str s, .int .u8 c.toNat] h Q := by
  refine WF.code F44 rfl ?_
  simp (maxSteps := 1000000) (disch := first | omega | (simp only [AHeap.alloc_n, AHeap.upd_n, List.length_cons, List.length_nil, List.length_append] <;> omega) | fail) only [go_sem, reduceIte, Nat.reduceAdd, Nat.reduceEqDiff, Nat.reduceDiv, Nat.reduceMod, Nat.reducePow, Nat.reduceSub, Nat.reduceMul, Nat.reduceLeDiff, beq_self_eq_true, bne_self_eq_false, Int.reduceBEq, Int.reduceBNe, Int.reduceLE, Int.reduceLT, Int.reduceToNat, Int.reduceAdd, Int.reduceSub]
  refine WF.code F77 rfl ?_
  simp (maxSteps := 1000000) (disch := first | omega | (simp only [AHeap.alloc_n, AHeap.upd_n, List.length_cons, List.length_nil, List.length_append] <;> omega) | fail) only [go_sem, reduceIte, Nat.reduceAdd, Nat.reduceEqDiff, Nat.reduceDiv, Nat.reduceMod, Nat.reducePow, Nat.reduceSub, Nat.reduceMul, Nat.reduceLeDiff, beq_self_eq_true, bne_self_eq_false, Int.reduceBEq, Int.reduceBNe, Int.reduceLE, Int.reduceLT, Int.reduceToNat, Int.reduceAdd, Int.reduceSub]
  refine wp_loop (fun n a h' => n ≤ s.length ∧ h' = h ∧ (∀ (j : Nat) (x : UInt8), n ≤ j → s[j]? = some x → x ≠ c) ∧ a.tm.get 5 = some (.int .i64 ((n : Int) - 1)) ∧ a.tm.get 0 = some (.str s) ∧ a.tm.get 1 = some (.int .u8 c.toNat) ∧ a.df = []) ?_ s.length ?_
  · rintro n ⟨t, df⟩ h' ⟨hn, rfl, hno, k5, k0, k1, hdf⟩
    simp only at k0 k1 k5 hdf
    subst hdf
    simp (maxSteps := 1000000) (disch := first | omega | (simp only [AHeap.alloc_n, AHeap.upd_n, List.length_cons, List.length_nil, List.length_append] <;> omega) | fail) only [go_sem, reduceIte, Nat.reduceAdd, Nat.reduceEqDiff, Nat.reduceDiv, Nat.reduceMod, Nat.reducePow, Nat.reduceSub, Nat.reduceMul, Nat.reduceLeDiff, beq_self_eq_true, bne_self_eq_false, Int.reduceBEq, Int.reduceBNe, Int.reduceLE, Int.reduceLT, Int.reduceToNat, Int.reduceAdd, Int.reduceSub, k5]
    (first | refine condP_splitN (fun hc => ?_) (fun hc => ?_) | refine wantP_splitN (fun hc => ?_) (fun hc => ?_) | refine wantPD_splitN (fun hc => ?_) (fun hc => ?_) | refine condP_split (fun hc => ?_) (fun hc => ?_) | refine wantP_split (fun hc => ?_) (fun hc => ?_) | refine wantPD_split (fun hc => ?_) (fun hc => ?_))
    · have hn1 : 1 ≤ n := by have := of_decide_eq_true hc; omega
      have e1 : ((n : Int) - 1).toNat = n - 1 := by omega
      have hs : s[n - 1]? = some s[n - 1] := List.getElem?_eq_getElem (by omega)
      generalize s[n - 1] = x at hs
      simp (maxSteps := 1000000) (disch := first | omega | (simp only [AHeap.alloc_n, AHeap.upd_n, List.length_cons, List.length_nil, List.length_append] <;> omega) | fail) only [go_sem, reduceIte, Nat.reduceAdd, Nat.reduceEqDiff, Nat.reduceDiv, Nat.reduceMod, Nat.reducePow, Nat.reduceSub, Nat.reduceMul, Nat.reduceLeDiff, beq_self_eq_true, bne_self_eq_false, Int.reduceBEq, Int.reduceBNe, Int.reduceLE, Int.reduceLT, Int.reduceToNat, Int.reduceAdd, Int.reduceSub, k5, k0, k1, e1, hs]
      (first | refine condP_splitN (fun he => ?_) (fun he => ?_) | refine wantP_splitN (fun he => ?_) (fun he => ?_) | refine wantPD_splitN (fun he => ?_) (fun he => ?_) | refine condP_split (fun he => ?_) (fun he => ?_) | refine wantP_split (fun he => ?_) (fun he => ?_) | refine wantPD_split (fun he => ?_) (fun he => ?_))
      · simp (maxSteps := 1000000) (disch := first | omega | (simp only [AHeap.alloc_n, AHeap.upd_n, List.length_cons, List.length_nil, List.length_append] <;> omega) | fail) only [go_sem, reduceIte, Nat.reduceAdd, Nat.reduceEqDiff, Nat.reduceDiv, Nat.reduceMod, Nat.reducePow, Nat.reduceSub, Nat.reduceMul, Nat.reduceLeDiff, beq_self_eq_true, bne_self_eq_false, Int.reduceBEq, Int.reduceBNe, Int.reduceLE, Int.reduceLT, Int.reduceToNat, Int.reduceAdd, Int.reduceSub, k5]
        have hx : x = c := by have : (x.toNat : Int) = c.toNat := by simpa using he
                              exact UInt8.toNat_inj.1 (by omega)
        subst hx
        refine hQ _ (.inr ⟨n - 1, by omega, hs, fun j x hj hx => hno j x (by omega) hx⟩)
      · have hx : x ≠ c := by rintro rfl; simp at he
        simp (maxSteps := 1000000) (disch := first | omega | (simp only [AHeap.alloc_n, AHeap.upd_n, List.length_cons, List.length_nil, List.length_append] <;> omega) | fail) only [go_sem, reduceIte, Nat.reduceAdd, Nat.reduceEqDiff, Nat.reduceDiv, Nat.reduceMod, Nat.reducePow, Nat.reduceSub, Nat.reduceMul, Nat.reduceLeDiff, beq_self_eq_true, bne_self_eq_false, Int.reduceBEq, Int.reduceBNe, Int.reduceLE, Int.reduceLT, Int.reduceToNat, Int.reduceAdd, Int.reduceSub, k5, k0, k1]
        refine ⟨n - 1, by omega, by omega, ?_, ?_⟩
        · intro j y hj hy
          by_cases e : j = n - 1
          · subst e; rw [hs] at hy; cases hy; exact hx
          · exact hno j y (by omega) hy
        · congr 2; omega
    · have hn0 : n = 0 := by have := of_decide_eq_false hc; omega
      subst hn0
      simp (maxSteps := 1000000) (disch := first | omega | (simp only [AHeap.alloc_n, AHeap.upd_n, List.length_cons, List.length_nil, List.length_append] <;> omega) | fail) only [go_sem, reduceIte, Nat.reduceAdd, Nat.reduceEqDiff, Nat.reduceDiv, Nat.reduceMod, Nat.reducePow, Nat.reduceSub, Nat.reduceMul, Nat.reduceLeDiff, beq_self_eq_true, bne_self_eq_false, Int.reduceBEq, Int.reduceBNe, Int.reduceLE, Int.reduceLT, Int.reduceToNat, Int.reduceAdd, Int.reduceSub]
      exact hQ _ (.inl ⟨rfl, fun j x hx => hno j x (Nat.zero_le _) hx⟩)
  · simp (maxSteps := 1000000) (disch := first | omega | (simp only [AHeap.alloc_n, AHeap.upd_n, List.length_cons, List.length_nil, List.length_append] <;> omega) | fail) only [go_sem, reduceIte, Nat.reduceAdd, Nat.reduceEqDiff, Nat.reduceDiv, Nat.reduceMod, Nat.reducePow, Nat.reduceSub, Nat.reduceMul, Nat.reduceLeDiff, beq_self_eq_true, bne_self_eq_false, Int.reduceBEq, Int.reduceBNe, Int.reduceLE, Int.reduceLT, Int.reduceToNat, Int.reduceAdd, Int.reduceSub]
    refine ⟨Nat.le_refl _, ?_⟩
    intro j x hj hx
    have := (List.getElem?_eq_some_iff.1 hx).1
    omega
theorem countNL {s : Bs} {h : AHeap} {Q : QR} (hQ : Q (.ret (.int .i64 ((s.count 10 : Nat) : Int))) h) : WF F 43 [.str s, .str [10]] h Q := by
  refine WF.code F43 rfl ?_
  simp (maxSteps := 1000000) (disch := first | omega | (simp only [AHeap.alloc_n, AHeap.upd_n, List.length_cons, List.length_nil, List.length_append] <;> omega) | fail) only [go_sem, reduceIte, Nat.reduceAdd, Nat.reduceEqDiff, Nat.reduceDiv, Nat.reduceMod, Nat.reducePow, Nat.reduceSub, Nat.reduceMul, Nat.reduceLeDiff, beq_self_eq_true, bne_self_eq_false, Int.reduceBEq, Int.reduceBNe, Int.reduceLE, Int.reduceLT, Int.reduceToNat, Int.reduceAdd, Int.reduceSub]
  refine WF.prim F75 rfl ?_
  simp (maxSteps := 1000000) (disch := first | omega | (simp only [AHeap.alloc_n, AHeap.upd_n, List.length_cons, List.length_nil, List.length_append] <;> omega) | fail) only [go_sem, reduceIte, Nat.reduceAdd, Nat.reduceEqDiff, Nat.reduceDiv, Nat.reduceMod, Nat.reducePow, Nat.reduceSub, Nat.reduceMul, Nat.reduceLeDiff, beq_self_eq_true, bne_self_eq_false, Int.reduceBEq, Int.reduceBNe, Int.reduceLE, Int.reduceLT, Int.reduceToNat, Int.reduceAdd, Int.reduceSub]
  exact hQ

def colOf (s : Bs) : Nat → Nat
  | 0 => 1
  | i + 1 => if s[i]? = some 10 then 1 else colOf s i + 1
theorem colOf_le (s : Bs) : ∀ m, colOf s m ≤ m + 1
  | 0 => Nat.le_refl _
  | m + 1 => by
    have := colOf_le s m
    rw [colOf]
    split <;> omega
theorem colOf_last {s : Bs} {m : Nat} (hm : m ≤ s.length) {r : Int} (hl : LastAt (s.take m) 10 r) : (colOf s m : Int) = m - r := by
  have hget : ∀ j, j < m → (s.take m)[j]? = s[j]? := fun j hj => by rw [List.getElem?_take, if_pos hj]
  rcases hl with ⟨rfl, hno⟩ | ⟨i, rfl, hi, hno⟩
  · have : ∀ k, k ≤ m → colOf s k = k + 1 := by
      intro k
      induction k with
      | zero => intro _; rfl
      | succ k ih =>
        intro hk
        have : ¬ s[k]? = some 10 := fun q => hno k 10 (by rw [hget k (by omega)]; exact q) rfl
        rw [colOf, if_neg this, ih (by omega)]
    rw [this m (Nat.le_refl _)]
    omega
  · have him : i < m := by
      have := (List.getElem?_eq_some_iff.1 hi).1
      rw [List.length_take] at this
      omega
    have h10 : s[i]? = some 10 := by rw [← hget i him]; exact hi
    have : ∀ k, i + 1 + k ≤ m → colOf s (i + 1 + k) = k + 1 := by
      intro k
      induction k with
      | zero => intro _; rw [Nat.add_zero, colOf, if_pos h10]
      | succ k ih =>
        intro hk
        have : ¬ s[i + 1 + k]? = some 10 := fun q => hno (i + 1 + k) 10 (by omega) (by rw [hget _ (by omega)]; exact q) rfl
        rw [← Nat.add_assoc, colOf, if_neg this, ih (by omega)]
    have := this (m - (i + 1)) (by omega)
    rw [show i + 1 + (m - (i + 1)) = m by omega] at this
    rw [this]
    omega

theorem line_spec {s : Bs} {n : Int} {m : Nat} (hlen : s.length ≤ 9000) (hm : min (max n 0) (s.length : Int) = (m : Int)) {h : AHeap} {Q : QR} (hQ : Q (.ret (.tuple [.int .i64 (((s.take m).count 10 : Nat) + 1 : Int), .int .i64 (colOf s m : Nat)])) h) : WF F 22 [.str s, .int .i64 n] h Q := by
  have hml : m ≤ s.length := by omega
  have hb : bnd (some (.int .i64 (m : Int))) s.length s.length = some m := bnd_num hml
  have hc : (s.take m).count 10 ≤ (s.take m).length := List.count_le_length
  have htl : (s.take m).length = m := by rw [List.length_take]; omega
  refine WF.code F22 rfl ?_
  simp (maxSteps := 1000000) (disch := first | omega | (simp only [AHeap.alloc_n, AHeap.upd_n, List.length_cons, List.length_nil, List.length_append] <;> omega) | fail) only [go_sem, reduceIte, Nat.reduceAdd, Nat.reduceEqDiff, Nat.reduceDiv, Nat.reduceMod, Nat.reducePow, Nat.reduceSub, Nat.reduceMul, Nat.reduceLeDiff, beq_self_eq_true, bne_self_eq_false, Int.reduceBEq, Int.reduceBNe, Int.reduceLE, Int.reduceLT, Int.reduceToNat, Int.reduceAdd, Int.reduceSub, mx_max, mx_min, hm, hb, List.drop_zero, Nat.sub_zero]
  refine countNL ?_
  simp (maxSteps := 1000000) (disch := first | omega | (simp only [AHeap.alloc_n, AHeap.upd_n, List.length_cons, List.length_nil, List.length_append] <;> omega) | fail) only [go_sem, reduceIte, Nat.reduceAdd, Nat.reduceEqDiff, Nat.reduceDiv, Nat.reduceMod, Nat.reducePow, Nat.reduceSub, Nat.reduceMul, Nat.reduceLeDiff, beq_self_eq_true, bne_self_eq_false, Int.reduceBEq, Int.reduceBNe, Int.reduceLE, Int.reduceLT, Int.reduceToNat, Int.reduceAdd, Int.reduceSub]
  refine lastByte (c := 10) (by omega) ?_
  intro r hr
  have hcol := colOf_last hml hr
  have hcb := colOf_le s m
  have hr2 : ((s.take m).length : Int) - r = (colOf s m : Nat) := by rw [htl]; omega
  simp (maxSteps := 1000000) (disch := first | omega | (simp only [AHeap.alloc_n, AHeap.upd_n, List.length_cons, List.length_nil, List.length_append] <;> omega) | fail) only [go_sem, reduceIte, Nat.reduceAdd, Nat.reduceEqDiff, Nat.reduceDiv, Nat.reduceMod, Nat.reducePow, Nat.reduceSub, Nat.reduceMul, Nat.reduceLeDiff, beq_self_eq_true, bne_self_eq_false, Int.reduceBEq, Int.reduceBNe, Int.reduceLE, Int.reduceLT, Int.reduceToNat, Int.reduceAdd, Int.reduceSub, hr2]
  exact hQ
theorem lines_law {s : Bs} {n : Int} (hlen : s.length < 2 ^ 61) {h : AHeap} (hG : GH h) : WF F 10 [.str s, .int .i64 n] h (fun r _ => r = .ret (.bool true)) := by
  obtain ⟨m, hm⟩ : ∃ m : Nat, min (max n 0) (s.length : Int) = (m : Int) := ⟨(min (max n 0) (s.length : Int)).toNat, by omega⟩
  refine WF.code F10 rfl ?_
  simp (maxSteps := 1000000) (disch := first | omega | (simp only [AHeap.alloc_n, AHeap.upd_n, List.length_cons, List.length_nil, List.length_append] <;> omega) | fail) only [go_sem, reduceIte, Nat.reduceAdd, Nat.reduceEqDiff, Nat.reduceDiv, Nat.reduceMod, Nat.reducePow, Nat.reduceSub, Nat.reduceMul, Nat.reduceLeDiff, beq_self_eq_true, bne_self_eq_false, Int.reduceBEq, Int.reduceBNe, Int.reduceLE, Int.reduceLT, Int.reduceToNat, Int.reduceAdd, Int.reduceSub]
  refine alive05 hG ?_
  intro h1 hf1
  simp (maxSteps := 1000000) (disch := first | omega | (simp only [AHeap.alloc_n, AHeap.upd_n, List.length_cons, List.length_nil, List.length_append] <;> omega) | fail) only [go_sem, reduceIte, Nat.reduceAdd, Nat.reduceEqDiff, Nat.reduceDiv, Nat.reduceMod, Nat.reducePow, Nat.reduceSub, Nat.reduceMul, Nat.reduceLeDiff, beq_self_eq_true, bne_self_eq_false, Int.reduceBEq, Int.reduceBNe, Int.reduceLE, Int.reduceLT, Int.reduceToNat, Int.reduceAdd, Int.reduceSub]
  (first | refine condP_splitN (fun hbig => ?_) (fun hbig => ?_) | refine wantP_splitN (fun hbig => ?_) (fun hbig => ?_) | refine wantPD_splitN (fun hbig => ?_) (fun hbig => ?_) | refine condP_split (fun hbig => ?_) (fun hbig => ?_) | refine wantP_split (fun hbig => ?_) (fun hbig => ?_) | refine wantPD_split (fun hbig => ?_) (fun hbig => ?_))
  · simp (maxSteps := 1000000) (disch := first | omega | (simp only [AHeap.alloc_n, AHeap.upd_n, List.length_cons, List.length_nil, List.length_append] <;> omega) | fail) only [go_sem, reduceIte, Nat.reduceAdd, Nat.reduceEqDiff, Nat.reduceDiv, Nat.reduceMod, Nat.reducePow, Nat.reduceSub, Nat.reduceMul, Nat.reduceLeDiff, beq_self_eq_true, bne_self_eq_false, Int.reduceBEq, Int.reduceBNe, Int.reduceLE, Int.reduceLT, Int.reduceToNat, Int.reduceAdd, Int.reduceSub]
  · have hs : s.length ≤ 9000 := (by have := of_decide_eq_false hbig; omega)
    simp (maxSteps := 1000000) (disch := first | omega | (simp only [AHeap.alloc_n, AHeap.upd_n, List.length_cons, List.length_nil, List.length_append] <;> omega) | fail) only [go_sem, reduceIte, Nat.reduceAdd, Nat.reduceEqDiff, Nat.reduceDiv, Nat.reduceMod, Nat.reducePow, Nat.reduceSub, Nat.reduceMul, Nat.reduceLeDiff, beq_self_eq_true, bne_self_eq_false, Int.reduceBEq, Int.reduceBNe, Int.reduceLE, Int.reduceLT, Int.reduceToNat, Int.reduceAdd, Int.reduceSub]
    refine wp_loop (fun k a h' => ∃ i : Nat, k = m - i ∧ i ≤ m ∧ a.tm.get 17 = some (.int .i64 (i : Int)) ∧ a.tm.get 16 = some (.int .i64 (s.length : Int)) ∧ a.tm.get 5 = some (.int .i64 ((((s.take i).count 10 : Nat) : Int) + 1)) ∧ a.tm.get 6 = some (.int .i64 (colOf s i : Nat)) ∧ colOf s i ≤ i + 1 ∧ a.tm.get 0 = some (.str s) ∧ a.tm.get 1 = some (.int .i64 n) ∧ a.df = []) ?_ m ?_
    · rintro k ⟨t, df⟩ h' ⟨i, hk, hi, k17, k16, k5, k6, hci, k0, k1, hdf⟩
      simp only at k0 k1 k5 k6 k16 k17 hdf
      subst hdf
      have hcl : (s.take i).count 10 ≤ (s.take i).length := List.count_le_length
      have htl : (s.take i).length = i := by rw [List.length_take]; omega
      have fin : i = m → ∀ (t : Tr AV), t.get 5 = some (.int .i64 ((((s.take i).count 10 : Nat) : Int) + 1)) → t.get 6 = some (.int .i64 (colOf s i : Nat)) → True := fun _ _ _ _ => trivial
      simp (maxSteps := 1000000) (disch := first | omega | (simp only [AHeap.alloc_n, AHeap.upd_n, List.length_cons, List.length_nil, List.length_append] <;> omega) | fail) only [go_sem, reduceIte, Nat.reduceAdd, Nat.reduceEqDiff, Nat.reduceDiv, Nat.reduceMod, Nat.reducePow, Nat.reduceSub, Nat.reduceMul, Nat.reduceLeDiff, beq_self_eq_true, bne_self_eq_false, Int.reduceBEq, Int.reduceBNe, Int.reduceLE, Int.reduceLT, Int.reduceToNat, Int.reduceAdd, Int.reduceSub, k16, k17]
      (first | refine condP_splitN (fun hlt => ?_) (fun hlt => ?_) | refine wantP_splitN (fun hlt => ?_) (fun hlt => ?_) | refine wantPD_splitN (fun hlt => ?_) (fun hlt => ?_) | refine condP_split (fun hlt => ?_) (fun hlt => ?_) | refine wantP_split (fun hlt => ?_) (fun hlt => ?_) | refine wantPD_split (fun hlt => ?_) (fun hlt => ?_))
      · have hlt' : i < s.length := (by have := of_decide_eq_true hlt; omega)
        simp (maxSteps := 1000000) (disch := first | omega | (simp only [AHeap.alloc_n, AHeap.upd_n, List.length_cons, List.length_nil, List.length_append] <;> omega) | fail) only [go_sem, reduceIte, Nat.reduceAdd, Nat.reduceEqDiff, Nat.reduceDiv, Nat.reduceMod, Nat.reducePow, Nat.reduceSub, Nat.reduceMul, Nat.reduceLeDiff, beq_self_eq_true, bne_self_eq_false, Int.reduceBEq, Int.reduceBNe, Int.reduceLE, Int.reduceLT, Int.reduceToNat, Int.reduceAdd, Int.reduceSub, k17, k1]
        (first | refine condP_splitN (fun hge => ?_) (fun hge => ?_) | refine wantP_splitN (fun hge => ?_) (fun hge => ?_) | refine wantPD_splitN (fun hge => ?_) (fun hge => ?_) | refine condP_split (fun hge => ?_) (fun hge => ?_) | refine wantP_split (fun hge => ?_) (fun hge => ?_) | refine wantPD_split (fun hge => ?_) (fun hge => ?_))
        · have him : i = m := by have := of_decide_eq_true hge; omega
          subst him
          simp (maxSteps := 1000000) (disch := first | omega | (simp only [AHeap.alloc_n, AHeap.upd_n, List.length_cons, List.length_nil, List.length_append] <;> omega) | fail) only [go_sem, reduceIte, Nat.reduceAdd, Nat.reduceEqDiff, Nat.reduceDiv, Nat.reduceMod, Nat.reducePow, Nat.reduceSub, Nat.reduceMul, Nat.reduceLeDiff, beq_self_eq_true, bne_self_eq_false, Int.reduceBEq, Int.reduceBNe, Int.reduceLE, Int.reduceLT, Int.reduceToNat, Int.reduceAdd, Int.reduceSub, k0, k1]
          refine line_spec hs hm ?_
          simp (maxSteps := 1000000) (disch := first | omega | (simp only [AHeap.alloc_n, AHeap.upd_n, List.length_cons, List.length_nil, List.length_append] <;> omega) | fail) only [go_sem, reduceIte, Nat.reduceAdd, Nat.reduceEqDiff, Nat.reduceDiv, Nat.reduceMod, Nat.reducePow, Nat.reduceSub, Nat.reduceMul, Nat.reduceLeDiff, beq_self_eq_true, bne_self_eq_false, Int.reduceBEq, Int.reduceBNe, Int.reduceLE, Int.reduceLT, Int.reduceToNat, Int.reduceAdd, Int.reduceSub, k0, k5, k6]
          refine key_spec ?_
          intro h2 hf2
          simp (maxSteps := 1000000) (disch := first | omega | (simp only [AHeap.alloc_n, AHeap.upd_n, List.length_cons, List.length_nil, List.length_append] <;> omega) | fail) only [go_sem, reduceIte, Nat.reduceAdd, Nat.reduceEqDiff, Nat.reduceDiv, Nat.reduceMod, Nat.reducePow, Nat.reduceSub, Nat.reduceMul, Nat.reduceLeDiff, beq_self_eq_true, bne_self_eq_false, Int.reduceBEq, Int.reduceBNe, Int.reduceLE, Int.reduceLT, Int.reduceToNat, Int.reduceAdd, Int.reduceSub, k0]
          refine refKey ?_
          simp (maxSteps := 1000000) (disch := first | omega | (simp only [AHeap.alloc_n, AHeap.upd_n, List.length_cons, List.length_nil, List.length_append] <;> omega) | fail) only [go_sem, reduceIte, Nat.reduceAdd, Nat.reduceEqDiff, Nat.reduceDiv, Nat.reduceMod, Nat.reducePow, Nat.reduceSub, Nat.reduceMul, Nat.reduceLeDiff, beq_self_eq_true, bne_self_eq_false, Int.reduceBEq, Int.reduceBNe, Int.reduceLE, Int.reduceLT, Int.reduceToNat, Int.reduceAdd, Int.reduceSub, eqT, eqK]
        · have him : i < m := by have := of_decide_eq_false hge; omega
          have hsi : s[i]? = some s[i] := List.getElem?_eq_getElem hlt'
          have htk : s.take (i + 1) = s.take i ++ [s[i]] := List.take_succ_eq_append_getElem hlt'
          generalize s[i] = x at hsi htk
          simp (maxSteps := 1000000) (disch := first | omega | (simp only [AHeap.alloc_n, AHeap.upd_n, List.length_cons, List.length_nil, List.length_append] <;> omega) | fail) only [go_sem, reduceIte, Nat.reduceAdd, Nat.reduceEqDiff, Nat.reduceDiv, Nat.reduceMod, Nat.reducePow, Nat.reduceSub, Nat.reduceMul, Nat.reduceLeDiff, beq_self_eq_true, bne_self_eq_false, Int.reduceBEq, Int.reduceBNe, Int.reduceLE, Int.reduceLT, Int.reduceToNat, Int.reduceAdd, Int.reduceSub, k0, k5, k6, k17, hsi]
          (first | refine condP_splitN (fun hx => ?_) (fun hx => ?_) | refine wantP_splitN (fun hx => ?_) (fun hx => ?_) | refine wantPD_splitN (fun hx => ?_) (fun hx => ?_) | refine condP_split (fun hx => ?_) (fun hx => ?_) | refine wantP_split (fun hx => ?_) (fun hx => ?_) | refine wantPD_split (fun hx => ?_) (fun hx => ?_))
          · have hx' : x = 10 := by have : (x.toNat : Int) = 10 := by simpa using hx
                                    exact UInt8.toNat_inj.1 (by show x.toNat = 10; omega)
            subst hx'
            simp (maxSteps := 1000000) (disch := first | omega | (simp only [AHeap.alloc_n, AHeap.upd_n, List.length_cons, List.length_nil, List.length_append] <;> omega) | fail) only [go_sem, reduceIte, Nat.reduceAdd, Nat.reduceEqDiff, Nat.reduceDiv, Nat.reduceMod, Nat.reducePow, Nat.reduceSub, Nat.reduceMul, Nat.reduceLeDiff, beq_self_eq_true, bne_self_eq_false, Int.reduceBEq, Int.reduceBNe, Int.reduceLE, Int.reduceLT, Int.reduceToNat, Int.reduceAdd, Int.reduceSub, k0, k1, k5, k6, k16, k17]
            have hcol : colOf s (i + 1) = 1 := by rw [colOf, if_pos hsi]
            have hcnt : (s.take (i + 1)).count 10 = (s.take i).count 10 + 1 := by rw [htk, List.count_append]; rfl
            exact ⟨m - (i + 1), by omega, i + 1, rfl, by omega, rfl, by rw [hcnt]; rfl, by rw [hcol]; rfl, by omega⟩
          · simp (maxSteps := 1000000) (disch := first | omega | (simp only [AHeap.alloc_n, AHeap.upd_n, List.length_cons, List.length_nil, List.length_append] <;> omega) | fail) only [go_sem, reduceIte, Nat.reduceAdd, Nat.reduceEqDiff, Nat.reduceDiv, Nat.reduceMod, Nat.reducePow, Nat.reduceSub, Nat.reduceMul, Nat.reduceLeDiff, beq_self_eq_true, bne_self_eq_false, Int.reduceBEq, Int.reduceBNe, Int.reduceLE, Int.reduceLT, Int.reduceToNat, Int.reduceAdd, Int.reduceSub, k0, k1, k5, k6, k16, k17]
            have hx' : x ≠ 10 := by rintro rfl; simp at hx
            have hcol : colOf s (i + 1) = colOf s i + 1 := by rw [colOf, if_neg (by rw [hsi]; intro q; cases q; exact hx' rfl)]
            have hcnt : (s.take (i + 1)).count 10 = (s.take i).count 10 := by rw [htk, List.count_append, List.count_singleton, if_neg (by simpa using hx')]; rfl
            exact ⟨m - (i + 1), by omega, i + 1, rfl, by omega, rfl, by rw [hcnt], by rw [hcol]; rfl, by omega⟩
      · have him : i = m := by have := of_decide_eq_false hlt; omega
        subst him
        simp (maxSteps := 1000000) (disch := first | omega | (simp only [AHeap.alloc_n, AHeap.upd_n, List.length_cons, List.length_nil, List.length_append] <;> omega) | fail) only [go_sem, reduceIte, Nat.reduceAdd, Nat.reduceEqDiff, Nat.reduceDiv, Nat.reduceMod, Nat.reducePow, Nat.reduceSub, Nat.reduceMul, Nat.reduceLeDiff, beq_self_eq_true, bne_self_eq_false, Int.reduceBEq, Int.reduceBNe, Int.reduceLE, Int.reduceLT, Int.reduceToNat, Int.reduceAdd, Int.reduceSub, k0, k1]
        refine line_spec hs hm ?_
        simp (maxSteps := 1000000) (disch := first | omega | (simp only [AHeap.alloc_n, AHeap.upd_n, List.length_cons, List.length_nil, List.length_append] <;> omega) | fail) only [go_sem, reduceIte, Nat.reduceAdd, Nat.reduceEqDiff, Nat.reduceDiv, Nat.reduceMod, Nat.reducePow, Nat.reduceSub, Nat.reduceMul, Nat.reduceLeDiff, beq_self_eq_true, bne_self_eq_false, Int.reduceBEq, Int.reduceBNe, Int.reduceLE, Int.reduceLT, Int.reduceToNat, Int.reduceAdd, Int.reduceSub, k0, k5, k6]
        refine key_spec ?_
        intro h2 hf2
        simp (maxSteps := 1000000) (disch := first | omega | (simp only [AHeap.alloc_n, AHeap.upd_n, List.length_cons, List.length_nil, List.length_append] <;> omega) | fail) only [go_sem, reduceIte, Nat.reduceAdd, Nat.reduceEqDiff, Nat.reduceDiv, Nat.reduceMod, Nat.reducePow, Nat.reduceSub, Nat.reduceMul, Nat.reduceLeDiff, beq_self_eq_true, bne_self_eq_false, Int.reduceBEq, Int.reduceBNe, Int.reduceLE, Int.reduceLT, Int.reduceToNat, Int.reduceAdd, Int.reduceSub, k0]
        refine refKey ?_
        simp (maxSteps := 1000000) (disch := first | omega | (simp only [AHeap.alloc_n, AHeap.upd_n, List.length_cons, List.length_nil, List.length_append] <;> omega) | fail) only [go_sem, reduceIte, Nat.reduceAdd, Nat.reduceEqDiff, Nat.reduceDiv, Nat.reduceMod, Nat.reducePow, Nat.reduceSub, Nat.reduceMul, Nat.reduceLeDiff, beq_self_eq_true, bne_self_eq_false, Int.reduceBEq, Int.reduceBNe, Int.reduceLE, Int.reduceLT, Int.reduceToNat, Int.reduceAdd, Int.reduceSub, eqT, eqK]
    · simp (maxSteps := 1000000) (disch := first | omega | (simp only [AHeap.alloc_n, AHeap.upd_n, List.length_cons, List.length_nil, List.length_append] <;> omega) | fail) only [go_sem, reduceIte, Nat.reduceAdd, Nat.reduceEqDiff, Nat.reduceDiv, Nat.reduceMod, Nat.reducePow, Nat.reduceSub, Nat.reduceMul, Nat.reduceLeDiff, beq_self_eq_true, bne_self_eq_false, Int.reduceBEq, Int.reduceBNe, Int.reduceLE, Int.reduceLT, Int.reduceToNat, Int.reduceAdd, Int.reduceSub]
      exact ⟨0, rfl, Nat.zero_le _, rfl, rfl, rfl, colOf_le s 0⟩
end Go.Ev
