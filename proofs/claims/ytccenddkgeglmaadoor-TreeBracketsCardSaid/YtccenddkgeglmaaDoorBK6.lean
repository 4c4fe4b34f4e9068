/- The lexer's floats. -/
import Derived.Test.YtccenddkgeglmaaDoorBK5
set_option linter.all false
set_option linter.unusedVariables false
set_option linter.unusedSimpArgs false
namespace Go.Ev
open Go
set_option maxRecDepth 100000
set_option maxHeartbeats 4000000

theorem wr_u64_nat (n : Nat) : wr .u64 (n : Int) = ((n % 2 ^ 64 : Nat) : Int) := by
  by_cases h : n ≤ 18446744073709551615
  · rw [wr_u64 (by omega) (by omega), Nat.mod_eq_of_lt (by omega)]
  · have hf : fits .u64 (n : Int) = false := by simp [fits]; omega
    unfold wr
    rw [hf]
    simp [IntKind.wrap, IntKind.bits, IntKind.signed]
theorem shl_u64 (n : Nat) : binA .shl (.int .u64 (n : Int)) (.int .u64 4) = some (.int .u64 ((16 * n % 2 ^ 64 : Nat) : Int)) := by
  have e : ((n : Int) * 2 ^ (min (4 : Int).toNat IntKind.u64.bits)) = ((16 * n : Nat) : Int) := by
    have : (2 : Int) ^ (min (4 : Int).toNat IntKind.u64.bits) = 16 := by decide
    rw [this]; omega
  simp only [binA, shiftA]
  rw [e, wr_u64_nat]
  rfl
theorem or_u64 {a b : Nat} (ha : a < 2 ^ 64) (hb : b < 2 ^ 64) : binA .or (.int .u64 (a : Int)) (.int .u64 (b : Int)) = some (.int .u64 ((a ||| b : Nat) : Int)) := by
  have hab : a ||| b < 2 ^ 64 := Nat.or_lt_two_pow ha hb
  simp [binA, intBin, IntKind.wrap, IntKind.bits, IntKind.signed, Nat.mod_eq_of_lt ha, Nat.mod_eq_of_lt hb]
  have e : (BitVec.ofNat 64 a ||| BitVec.ofNat 64 b : BitVec 64).toNat = a ||| b := by rw [BitVec.toNat_or, BitVec.toNat_ofNat, BitVec.toNat_ofNat, Nat.mod_eq_of_lt ha, Nat.mod_eq_of_lt hb]
  show (((BitVec.ofNat 64 a ||| BitVec.ofNat 64 b : BitVec 64).toNat : Nat) : Int) % 18446744073709551616 = _
  rw [e]
  generalize a ||| b = x at hab
  omega
theorem findB_lt (c : Nat) : ∀ (l : Bs) (i : Nat), findB c l i < i + l.length
  | [], i => by simp only [findB, List.length_nil]; omega
  | x :: r, i => by
    have := findB_lt c r (i + 1)
    simp only [findB, List.length_cons]
    cases x.toNat.beq c <;> simp only [cond_true, cond_false] <;> omega
theorem hexVal_succ {t : Bs} {i : Nat} {c : UInt8} (h : t[i]? = some c) : hexVal (t.take (i + 1)) = (16 * hexVal (t.take i) % 2 ^ 64) ||| (findB c.toNat hexs 0).toNat := by
  have e : t.take (i + 1) = t.take i ++ [c] := by
    obtain ⟨hl, hc⟩ := List.getElem?_eq_some_iff.1 h
    rw [List.take_succ_eq_append_getElem hl, hc]
  simp only [hexVal, e, List.foldl_append, List.foldl_cons, List.foldl_nil]
theorem hexVal_lt' : ∀ (t : Bs) (v : Nat), v < 2 ^ 64 → t.foldl (fun v c => (16 * v % 2 ^ 64) ||| (findB c.toNat hexs 0).toNat) v < 2 ^ 64
  | [], v, hv => hv
  | c :: t, v, _ => by
    simp only [List.foldl_cons]
    refine hexVal_lt' t _ (Nat.or_lt_two_pow (Nat.mod_lt _ (by decide)) ?_)
    have := findB_lt c.toNat hexs 0
    simp only [hexs, List.length_cons, List.length_nil] at this ⊢
    omega
theorem hexVal_lt (t : Bs) : hexVal t < 2 ^ 64 := hexVal_lt' t 0 (by decide)

theorem isHex_u64 {c : UInt8} (h : isHex c = true) : ∃ k : Nat, findB c.toNat hexs 0 = (k : Int) ∧ k < 16 := by
  have h1 := of_decide_eq_true h
  have h2 := findB_lt c.toNat hexs 0
  simp only [hexs, List.length_cons, List.length_nil] at h1 h2 ⊢
  exact ⟨_, (Int.toNat_of_nonneg h1).symm, by omega⟩

def fltD (l : Bs) : Bs := (l.drop 1).take 16
theorem fltTok_eq (N : Nat) (l : Bs) : fltTok N l = if (fltD l).length = 16 ∧ (fltD l).all isHex = true then aloneE N (l.drop 17) ⟨4, l.take 17, 0, hexVal (fltD l), N - l.length⟩ else .error (2, N - l.length) := rfl

theorem float_spec {r : Nat} {s l : Bs} {h : AHeap} (hG : GH h) (hr0 : 18 + 17 ≤ r) (hrn : r < h.n) (hbig : s.length < 2 ^ 62) (hrd : RdL h r s l) (hne : l ≠ []) {Q : QR} (hQ : TokQ r s h Q (fltTok s.length l)) : WF F 59 [.ptr r 0] h Q := by
  rw [fltTok_eq] at hQ
  obtain ⟨p, ver, hp, hpl, hr, hd, hc⟩ := hrd.pos
  rw [hp] at hQ
  have hl1 : 1 ≤ l.length := by cases l with | nil => exact absurd rfl hne | cons c l => simp
  refine WF.code F59 rfl ?_
  simp (maxSteps := 9999999) (disch := first | omega | (simp only [hN] <;> omega) | fail) only [go_sem, simprocAttr, hr]
  refine wp_loop (fun n a h2 => ∃ i ver ver2, n = 16 - i ∧ i ≤ 16 ∧ h2.get (h.n + 1) = some ⟨ver, .cells .own 0 [.int .i64 4, .str [], .int .i64 0, .int .u64 (hexVal ((fltD l).take i) : Int), .int .i64 (p : Int)]⟩ ∧ h2.get r = some ⟨ver2, .cells .own 0 [.str s, .int .i64 ((p + 1 + i : Nat) : Int)]⟩ ∧ a.tm.get 16 = some (.int .i64 (i : Int)) ∧ (p + 1 + i ≤ s.length ∧ ((fltD l).take i).length = i ∧ ((fltD l).take i).all isHex = true) ∧ (Fr r h h2 ∧ h.n + 2 = h2.n) ∧ h2.get h.n = some ⟨0, .cells .own 0 [.int .i64 0, .str [], .int .i64 0, .int .u64 0, .int .i64 0]⟩ ∧ a.tm.get 0 = some (.ptr r 0) ∧ a.tm.get 2 = some (.ptr h.n 0) ∧ a.tm.get 3 = some (.ptr (h.n + 1) 0) ∧ a.df = []) ?_ 16 ?_
  · rintro n ⟨t, df⟩ h2 ⟨i, v1, v2, hn, hi, hb, hr2, k16, ⟨hps, hlen, hall⟩, ⟨hf, hn2⟩, hb2, k0, k2, k3, hdf⟩
    simp only at k0 k2 k3 k16 hdf
    subst hdf
    have hG2 : GH h2 := hf.gh hr0 hG
    simp (maxSteps := 9999999) (disch := first | omega | (simp only [hN] <;> omega) | fail) only [go_sem, simprocAttr, k16]
    (first | refine condP_splitN (fun hlt => ?_) (fun hlt => ?_) | refine wantP_splitN (fun hlt => ?_) (fun hlt => ?_) | refine wantPD_splitN (fun hlt => ?_) (fun hlt => ?_) | refine condP_split (fun hlt => ?_) (fun hlt => ?_) | refine wantP_split (fun hlt => ?_) (fun hlt => ?_) | refine wantPD_split (fun hlt => ?_) (fun hlt => ?_))
    · have hlt' : i < 16 := (by have := of_decide_eq_true hlt; omega)
      simp (maxSteps := 9999999) (disch := first | omega | (simp only [hN] <;> omega) | fail) only [go_sem, simprocAttr, k0, hr2, k16]
      (first | refine condP_splitN (fun hge => ?_) (fun hge => ?_) | refine wantP_splitN (fun hge => ?_) (fun hge => ?_) | refine wantPD_splitN (fun hge => ?_) (fun hge => ?_) | refine condP_split (fun hge => ?_) (fun hge => ?_) | refine wantP_split (fun hge => ?_) (fun hge => ?_) | refine wantPD_split (fun hge => ?_) (fun hge => ?_))
      · have hge' : p + 1 + i < s.length := (by have := of_decide_eq_false hge; omega)
        have hsi : s[p + 1 + i]? = some s[p + 1 + i] := List.getElem?_eq_getElem hge'
        have hdi : (fltD l)[i]? = some s[p + 1 + i] := by
          rw [← hsi, ← hd]
          simp only [fltD, List.getElem?_take, if_pos hlt', List.getElem?_drop]
          congr 1; omega
        generalize s[p + 1 + i] = c at hsi hdi
        simp (maxSteps := 9999999) (disch := first | omega | (simp only [hN] <;> omega) | fail) only [go_sem, simprocAttr, hge, k0, hr2, hsi]
        refine indexByte (s := hexs) ?_
        simp (maxSteps := 9999999) (disch := first | omega | (simp only [hN] <;> omega) | fail) only [go_sem, simprocAttr, hge]
        (first | refine condP_splitN (fun hh => ?_) (fun hh => ?_) | refine wantP_splitN (fun hh => ?_) (fun hh => ?_) | refine wantPD_splitN (fun hh => ?_) (fun hh => ?_) | refine condP_split (fun hh => ?_) (fun hh => ?_) | refine wantP_split (fun hh => ?_) (fun hh => ?_) | refine wantPD_split (fun hh => ?_) (fun hh => ?_))
        · simp (maxSteps := 9999999) (disch := first | omega | (simp only [hN] <;> omega) | fail) only [go_sem, simprocAttr, k0, k3, hb, hG2.g2]
          refine stop_spec ?_
          simp (maxSteps := 9999999) (disch := first | omega | (simp only [hN] <;> omega) | fail) only [go_sem, simprocAttr]
          have hbad : ¬ ((fltD l).length = 16 ∧ (fltD l).all isHex = true) := by
            rintro ⟨_, h2⟩
            have h3 := List.all_eq_true.1 h2 c (List.mem_of_getElem? hdi)
            have := of_decide_eq_true h3
            have := of_decide_eq_true hh
            omega
          rw [if_neg hbad] at hQ
          exact hQ _ hf
        · have hx : isHex c = true := decide_eq_true (by have := of_decide_eq_false hh; omega)
          obtain ⟨k, hk, hk16⟩ := isHex_u64 hx
          have hv := hexVal_succ hdi
          have hvl := hexVal_lt ((fltD l).take i)
          simp (maxSteps := 9999999) (disch := first | omega | (simp only [hN] <;> omega) | fail) only [go_sem, simprocAttr, k0, k3, hb, hr2, hsi, shl_u64]
          refine indexByte (s := hexs) ?_
          rw [hk]
          simp (maxSteps := 9999999) (disch := first | omega | (simp only [hN] <;> omega) | fail) only [go_sem, simprocAttr, k0, k2, k3, k16, hb, hb2, hr2, or_u64 (Nat.mod_lt _ (by decide : 0 < 2 ^ 64)) (show k < 2 ^ 64 by omega)]
          have hli : i < (fltD l).length := (List.getElem?_eq_some_iff.1 hdi).1
          have htk : (fltD l).take (i + 1) = (fltD l).take i ++ [c] := by rw [List.take_succ_eq_append_getElem hli, (List.getElem?_eq_some_iff.1 hdi).2]
          refine ⟨_, ?_, i + 1, _, _, rfl, by omega, by rw [hv, hk]; rfl, rfl, rfl, ⟨by omega, by rw [List.length_take]; omega, ?_⟩, ?_⟩
          · omega
          · rw [htk, List.all_append, hall]; simp [hx]
          · exact ⟨⟨by (first | omega | (simp only [AHeap.alloc_n, AHeap.upd_n]; omega)), fun b hb hne => by (try simp only [AHeap.alloc_n, AHeap.upd_n] at hb hne); simp (maxSteps := 9999999) (disch := first | omega | (simp only [hN] <;> omega) | fail) only [go_sem, simprocAttr, hf.old]⟩, by omega⟩
      · have hge' : s.length ≤ p + 1 + i := (by have := of_decide_eq_true hge; omega)
        simp (maxSteps := 9999999) (disch := first | omega | (simp only [hN] <;> omega) | fail) only [go_sem, simprocAttr, hge, k0, k3, hb, hG2.g2]
        refine stop_spec ?_
        simp (maxSteps := 9999999) (disch := first | omega | (simp only [hN] <;> omega) | fail) only [go_sem, simprocAttr]
        have hbad : ¬ ((fltD l).length = 16 ∧ (fltD l).all isHex = true) := by
          rintro ⟨h1, _⟩
          simp only [fltD, List.length_take, List.length_drop] at h1
          omega
        rw [if_neg hbad] at hQ
        exact hQ _ hf
    · have hi16 : i = 16 := by have := of_decide_eq_false hlt; omega
      subst hi16
      have ht16 : (fltD l).take 16 = fltD l := by simp [fltD, List.take_take]
      rw [ht16] at hlen hall hb
      have hgood : (fltD l).length = 16 ∧ (fltD l).all isHex = true := ⟨hlen, hall⟩
      rw [if_pos hgood] at hQ
      have hrd2 : RdL h2 r s (l.drop 17) := ⟨(List.drop_suffix 17 l).trans hrd.1, v2, by rw [hr2]; simp only [List.length_drop]; congr 6; omega⟩
      simp (maxSteps := 9999999) (disch := first | omega | (simp only [hN] <;> omega) | fail) only [go_sem, simprocAttr, k0]
      refine alone_spec hG2 hrd2 ?_
      unfold aloneE at hQ
      by_cases hw : headB isWord (l.drop 17) = true
      · rw [if_pos hw] at hQ ⊢
        simp (maxSteps := 9999999) (disch := first | omega | (simp only [hN] <;> omega) | fail) only [go_sem, simprocAttr]
        exact hQ _ hf
      · rw [if_neg hw] at hQ ⊢
        have hsl : bnd (some (.int .i64 (p : Int))) 0 (p + 1 + 16) = some p := bnd_num (by omega)
        have htx : (s.drop p).take (p + 1 + 16 - p) = l.take 17 := by rw [hd]; congr 1; omega
        simp (maxSteps := 9999999) (disch := first | omega | (simp only [hN] <;> omega) | fail) only [go_sem, simprocAttr, k0, k3, k2, hb, hr2, hsl, htx, hb2]
        exact hQ _ (hrd2.of (by simp (maxSteps := 9999999) (disch := first | omega | (simp only [hN] <;> omega) | fail) only [go_sem, simprocAttr])) ⟨by (simp only [AHeap.alloc_n, AHeap.upd_n]; omega), fun b hb hne => by simp (maxSteps := 9999999) (disch := first | omega | (simp only [hN] <;> omega) | fail) only [go_sem, simprocAttr, hf.old]⟩
  · simp (maxSteps := 9999999) (disch := first | omega | (simp only [hN] <;> omega) | fail) only [go_sem, simprocAttr]
    exact ⟨0, 1, ver + 1, rfl, Nat.zero_le _, rfl, rfl, rfl, ⟨by omega, rfl, rfl⟩, ⟨by (first | omega | (simp only [AHeap.alloc_n, AHeap.upd_n]; omega)), fun b hb hne => by (try simp only [AHeap.alloc_n, AHeap.upd_n] at hb hne); simp (maxSteps := 9999999) (disch := first | omega | (simp only [hN] <;> omega) | fail) only [go_sem, simprocAttr]⟩⟩
end Go.Ev
