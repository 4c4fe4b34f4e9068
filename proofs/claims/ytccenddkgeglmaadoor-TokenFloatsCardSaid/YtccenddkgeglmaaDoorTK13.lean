/- The statement on floats: every float64's bits are one token. -/
import Derived.Test.YtccenddkgeglmaaDoorTK12
import Derived.Test.YtccenddkgeglmaaDoorL4
set_option linter.all false
set_option linter.unusedVariables false
set_option linter.unusedSimpArgs false
namespace Go.Ev
open Go
set_option maxRecDepth 100000
set_option maxHeartbeats 4000000

theorem shr_nib {u k : Nat} (hu : u < 2 ^ 64) (hk : k < 16) : ∃ x : Nat, binA .shr (.int .u64 (u : Int)) (.int .i64 ((60 - 4 * k : Nat) : Int)) = some (.int .u64 (x : Int)) ∧ x < 2 ^ 64 ∧ x % 16 = nib u k := by
  refine ⟨u / 2 ^ (60 - 4 * k), ?_, Nat.lt_of_le_of_lt (Nat.div_le_self _ _) hu, rfl⟩
  have h1 : decide (((60 - 4 * k : Nat) : Int) < 0) = false := by simp
  have h2 : min ((60 - 4 * k : Nat) : Int).toNat IntKind.u64.bits = 60 - 4 * k := by
    rw [Int.toNat_natCast]; exact Nat.min_eq_left (by simp [IntKind.bits]; omega)
  simp only [binA, shiftA, h1, cond_false, h2]
  congr 2
  rw [show ((2 : Int) ^ (60 - 4 * k)) = ((2 ^ (60 - 4 * k) : Nat) : Int) by simp]
  exact (Int.ofNat_fdiv _ _).symm
theorem and15 {x : Nat} (hx : x < 2 ^ 64) : binA .and (.int .u64 (x : Int)) (.int .u64 15) = some (.int .u64 ((x % 16 : Nat) : Int)) := by
  have h : (BitVec.ofInt 64 x &&& BitVec.ofInt 64 15 : BitVec 64).toNat = x % 16 := by
    rw [BitVec.toNat_and]
    have : (BitVec.ofInt 64 (15 : Int)).toNat = 15 := rfl
    rw [this]
    have h2 : (BitVec.ofInt 64 (x : Int)).toNat = x := by simp [Nat.mod_eq_of_lt hx]
    rw [h2]
    exact Nat.and_two_pow_sub_one_eq_mod x 4
  show some (AV.int .u64 (IntKind.u64.wrap (((BitVec.ofInt 64 x &&& BitVec.ofInt 64 15 : BitVec 64).toNat : Nat) : Int))) = _
  rw [h]
  congr 2
  exact fits_wrap (by simp [fits]; omega)
theorem hex_cut {n : Nat} (hn : n < 16) : ∀ hh, bnd (some (.int .u64 ((n + 1 : Nat) : Int))) 16 16 = some hh → (hexs.drop n).take (hh - n) = [hexB n] := by
  intro hh h
  rw [bnd_num (by omega)] at h
  cases h
  have : ∀ n, n < 16 → (hexs.drop n).take 1 = [hexB n] := by decide
  rw [show n + 1 - n = 1 by omega]
  exact this n hn

theorem floats_law {u : Nat} (hu : u < 2 ^ 64) {h : AHeap} (hG : GH h) : WF F 5 [.int .u64 (u : Int)] h (fun r _ => r = .ret (.bool true)) := by
  obtain ⟨t1, t2⟩ := tok_floats hu
  refine WF.code F5 rfl ?_
  simp (maxSteps := 1000000) (disch := first | omega | (simp only [AHeap.alloc_n, AHeap.upd_n, List.length_cons, List.length_nil, List.length_append] <;> omega) | fail) only [go_sem, reduceIte, Nat.reduceAdd, Nat.reduceEqDiff, Nat.reduceDiv, Nat.reduceMod, Nat.reducePow, Nat.reduceSub, Nat.reduceMul, Nat.reduceLeDiff, beq_self_eq_true, Int.reduceBEq, Int.reduceLE, Int.reduceLT, Int.reduceToNat, Int.reduceAdd, Int.reduceSub]
  refine alive05 hG ?_
  intro h1 hf1
  have hG1 := hf1.gh hG.n hG
  have hn1 := hf1.n; try simp only [AHeap.alloc_n, AHeap.upd_n] at hn1
  simp (maxSteps := 1000000) (disch := first | omega | (simp only [AHeap.alloc_n, AHeap.upd_n, List.length_cons, List.length_nil, List.length_append] <;> omega) | fail) only [go_sem, reduceIte, Nat.reduceAdd, Nat.reduceEqDiff, Nat.reduceDiv, Nat.reduceMod, Nat.reducePow, Nat.reduceSub, Nat.reduceMul, Nat.reduceLeDiff, beq_self_eq_true, Int.reduceBEq, Int.reduceLE, Int.reduceLT, Int.reduceToNat, Int.reduceAdd, Int.reduceSub]
  refine wp_loop (fun n a h' => ∃ k : Nat, n = 16 - k ∧ k ≤ 16 ∧ h' = h1 ∧ a.tm.get 4 = some (.int .i64 (60 - 4 * (k : Int))) ∧ a.tm.get 3 = some (.str (35 :: hx u k)) ∧ a.tm.get 0 = some (.int .u64 (u : Int)) ∧ a.df = []) ?_ 16 ?_
  · rintro n ⟨t, df⟩ h' ⟨k, hn, hk, rfl, k4, k3, k0, hdf⟩
    simp only at k0 k3 k4 hdf
    subst hdf
    simp (maxSteps := 1000000) (disch := first | omega | (simp only [AHeap.alloc_n, AHeap.upd_n, List.length_cons, List.length_nil, List.length_append] <;> omega) | fail) only [go_sem, reduceIte, Nat.reduceAdd, Nat.reduceEqDiff, Nat.reduceDiv, Nat.reduceMod, Nat.reducePow, Nat.reduceSub, Nat.reduceMul, Nat.reduceLeDiff, beq_self_eq_true, Int.reduceBEq, Int.reduceLE, Int.reduceLT, Int.reduceToNat, Int.reduceAdd, Int.reduceSub, k4]
    (first | refine condP_splitN (fun hc => ?_) (fun hc => ?_) | refine wantP_splitN (fun hc => ?_) (fun hc => ?_) | refine wantPD_splitN (fun hc => ?_) (fun hc => ?_) | refine condP_split (fun hc => ?_) (fun hc => ?_) | refine wantP_split (fun hc => ?_) (fun hc => ?_) | refine wantPD_split (fun hc => ?_) (fun hc => ?_))
    · have hk' : k < 16 := by have := of_decide_eq_true hc; omega
      obtain ⟨x, hs1, hx1, hx2⟩ := shr_nib hu hk'
      have e60 : ((60 - 4 * k : Nat) : Int) = 60 - 4 * (k : Int) := by omega
      rw [e60] at hs1
      have hnl := nib_lt u k
      have hb1 : bnd (some (.int .u64 ((x % 16 : Nat) : Int))) 0 (x % 16 + 1) = some (x % 16) := bnd_num (by omega)
      have hb2 : bnd (some (.int .u64 (((x % 16 : Nat) : Int) + 1))) 16 16 = some (x % 16 + 1) := bnd_num (i := x % 16 + 1) (by omega)
      have hcut : (hexs.drop (x % 16)).take (x % 16 + 1 - x % 16) = [hexB (nib u k)] := by rw [hx2]; exact hex_cut hnl _ (bnd_num (by omega))
      simp only [hexs] at hcut
      have hlx := hx_len u k
      simp (maxSteps := 1000000) (disch := first | omega | (simp only [AHeap.alloc_n, AHeap.upd_n, List.length_cons, List.length_nil, List.length_append] <;> omega) | fail) only [go_sem, reduceIte, Nat.reduceAdd, Nat.reduceEqDiff, Nat.reduceDiv, Nat.reduceMod, Nat.reducePow, Nat.reduceSub, Nat.reduceMul, Nat.reduceLeDiff, beq_self_eq_true, Int.reduceBEq, Int.reduceLE, Int.reduceLT, Int.reduceToNat, Int.reduceAdd, Int.reduceSub, k0, k3, k4, hs1, and15 hx1, hb1, hb2, hcut]
      refine ⟨_, ?_, k + 1, rfl, by omega, ?_⟩
      · omega
      · rw [hx_succ]
        refine ⟨?_, rfl⟩
        congr 2
        omega
    · have hk' : k = 16 := by have := of_decide_eq_false hc; omega
      subst hk'
      have hl16 : (35 :: hx u 16).length = 17 := by simp [hx_len]
      generalize (35 :: hx u 16) = s at *
      simp (maxSteps := 1000000) (disch := first | omega | (simp only [AHeap.alloc_n, AHeap.upd_n, List.length_cons, List.length_nil, List.length_append] <;> omega) | fail) only [go_sem, reduceIte, Nat.reduceAdd, Nat.reduceEqDiff, Nat.reduceDiv, Nat.reduceMod, Nat.reducePow, Nat.reduceSub, Nat.reduceMul, Nat.reduceLeDiff, beq_self_eq_true, Int.reduceBEq, Int.reduceLE, Int.reduceLT, Int.reduceToNat, Int.reduceAdd, Int.reduceSub, k0, k3]
      refine tokens_spec hG1 (by omega) ?_
      rw [t1]
      intro h3 v3 hf3 hts3
      have hG3 := hf3.gh hG1.n hG1
      obtain ⟨b3, ver3, rfl, hlo3, hb3, hc3⟩ := hts3.block (by simp)
      have hc3' : h3.get b3 = some ⟨ver3, .cells .own 5 [.int .i64 4, .str s, .int .i64 0, .int .u64 (u : Int), .int .i64 0]⟩ := hc3
      have hn3 := hf3.n; try simp only [AHeap.alloc_n, AHeap.upd_n] at hn3
      have hG3' := (hG3.alloc (.cells .own 0 [.nilIface, .int .i64 0])).upd (b := h3.n) hG3.n 1 (.cells .own 0 [.nilIface, .int .i64 0])
      have hb16 : bnd (some (.int .i64 16)) s.length s.length = some 16 := bnd_num (i := 16) (by omega)
      simp (maxSteps := 1000000) (disch := first | omega | (simp only [AHeap.alloc_n, AHeap.upd_n, List.length_cons, List.length_nil, List.length_append] <;> omega) | fail) only [go_sem, reduceIte, Nat.reduceAdd, Nat.reduceEqDiff, Nat.reduceDiv, Nat.reduceMod, Nat.reducePow, Nat.reduceSub, Nat.reduceMul, Nat.reduceLeDiff, beq_self_eq_true, Int.reduceBEq, Int.reduceLE, Int.reduceLT, Int.reduceToNat, Int.reduceAdd, Int.reduceSub, k3, hb16, List.drop_zero, Nat.sub_zero]
      refine tokens_spec hG3' (by rw [List.length_take]; omega) ?_
      rw [t2]
      intro h4 hf4
      have hG4 := hf4.gh hG3'.n hG3'
      have hn4 := hf4.n; try simp only [AHeap.alloc_n, AHeap.upd_n] at hn4
      have hG4' := (hG4.alloc (.cells .own 0 [.nilIface, .int .i64 0])).upd (b := h4.n) hG4.n 1 (.cells .own 0 [errAV 2, .int .i64 0])
      simp (maxSteps := 1000000) (disch := first | omega | (simp only [AHeap.alloc_n, AHeap.upd_n, List.length_cons, List.length_nil, List.length_append] <;> omega) | fail) only [go_sem, reduceIte, Nat.reduceAdd, Nat.reduceEqDiff, Nat.reduceDiv, Nat.reduceMod, Nat.reducePow, Nat.reduceSub, Nat.reduceMul, Nat.reduceLeDiff, beq_self_eq_true, Int.reduceBEq, Int.reduceLE, Int.reduceLT, Int.reduceToNat, Int.reduceAdd, Int.reduceSub, k0, k3, hf4.old, hc3', eqT_nil, eqT, eqKs, eqK]
      refine num_spec (e := 2) hG4' (by decide) (by decide) ?_
      intro h5 hf5
      have hn5 := hf5.n; try simp only [AHeap.alloc_n, AHeap.upd_n] at hn5
      simp (maxSteps := 1000000) (disch := first | omega | (simp only [AHeap.alloc_n, AHeap.upd_n, List.length_cons, List.length_nil, List.length_append] <;> omega) | fail) only [go_sem, reduceIte, Nat.reduceAdd, Nat.reduceEqDiff, Nat.reduceDiv, Nat.reduceMod, Nat.reducePow, Nat.reduceSub, Nat.reduceMul, Nat.reduceLeDiff, beq_self_eq_true, Int.reduceBEq, Int.reduceLE, Int.reduceLT, Int.reduceToNat, Int.reduceAdd, Int.reduceSub, hf5.old, hf4.old]
  · simp (maxSteps := 1000000) (disch := first | omega | (simp only [AHeap.alloc_n, AHeap.upd_n, List.length_cons, List.length_nil, List.length_append] <;> omega) | fail) only [go_sem, reduceIte, Nat.reduceAdd, Nat.reduceEqDiff, Nat.reduceDiv, Nat.reduceMod, Nat.reducePow, Nat.reduceSub, Nat.reduceMul, Nat.reduceLeDiff, beq_self_eq_true, Int.reduceBEq, Int.reduceLE, Int.reduceLT, Int.reduceToNat, Int.reduceAdd, Int.reduceSub]
    exact ⟨0, rfl, by omega, rfl, rfl⟩
end Go.Ev
