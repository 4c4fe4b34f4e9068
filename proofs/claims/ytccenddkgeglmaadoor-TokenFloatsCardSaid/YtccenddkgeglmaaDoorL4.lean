/- Tokens, without any program: every float64's bits as digits. -/
import Derived.Test.YtccenddkgeglmaaDoorL3
set_option linter.all false
set_option linter.unusedVariables false
set_option linter.unusedSimpArgs false
namespace Go.Ev

def nib (u j : Nat) : Nat := u / 2 ^ (60 - 4 * j) % 16
def hexB (n : Nat) : UInt8 := hexs.getD n 0
def hx (u k : Nat) : Bs := (List.range k).map fun j => hexB (nib u j)
theorem hx_succ (u k : Nat) : hx u (k + 1) = hx u k ++ [hexB (nib u k)] := by simp [hx, List.range_succ]
theorem hx_len (u k : Nat) : (hx u k).length = k := by simp [hx]
theorem nib_lt (u j : Nat) : nib u j < 16 := Nat.mod_lt _ (by decide)
theorem hexB_find : ∀ n, n < 16 → findB (hexB n).toNat hexs 0 = (n : Int) := by decide
theorem hexB_word : ∀ n, n < 16 → isHex (hexB n) = true := by decide
theorem hexVal_snoc (l : Bs) (c : UInt8) : hexVal (l ++ [c]) = (16 * hexVal l % 2 ^ 64) ||| (findB c.toNat hexs 0).toNat := by simp [hexVal]
theorem hx_val {u : Nat} (hu : u < 2 ^ 64) : ∀ k, k ≤ 16 → hexVal (hx u k) = u / 2 ^ (64 - 4 * k)
  | 0, _ => by
    simp only [hx, hexVal, List.range_zero, List.map_nil, List.foldl_nil]
    exact (Nat.div_eq_of_lt (by simpa using hu)).symm
  | k + 1, hk => by
    have ih := hx_val hu k (by omega)
    rw [hx_succ, hexVal_snoc, ih, hexB_find _ (nib_lt u k)]
    have e1 : 2 ^ (64 - 4 * k) = 2 ^ (64 - 4 * (k + 1)) * 16 := by
      rw [show 64 - 4 * k = 64 - 4 * (k + 1) + 4 by omega, Nat.pow_add]
    rw [e1, ← Nat.div_div_eq_div_mul]
    have e2 : nib u k = u / 2 ^ (64 - 4 * (k + 1)) % 16 := by rw [nib, show 60 - 4 * k = 64 - 4 * (k + 1) by omega]
    rw [e2]
    have hlt : u / 2 ^ (64 - 4 * (k + 1)) < 2 ^ 64 := Nat.lt_of_le_of_lt (Nat.div_le_self _ _) hu
    generalize u / 2 ^ (64 - 4 * (k + 1)) = x at hlt
    have e3 : (((x % 16 : Nat) : Int)).toNat = x % 16 := Int.toNat_natCast _
    rw [e3, Nat.mod_eq_of_lt (by omega)]
    have := Nat.two_pow_add_eq_or_of_lt (i := 4) (b := x % 16) (Nat.mod_lt _ (by decide)) (x / 16)
    have e4 : 2 ^ 4 = 16 := rfl
    rw [e4] at this
    rw [← this]
    omega
theorem hx_all (u k : Nat) : (hx u k).all isHex = true := by
  simp only [hx, List.all_map, List.all_eq_true]
  intro j _
  exact hexB_word _ (nib_lt u j)
theorem next_hash (N : Nat) (l : Bs) : nextTok N (35 :: l) = fltTok N (35 :: l) := rfl
theorem tok_floats {u : Nat} (hu : u < 2 ^ 64) : tokens (35 :: hx u 16) = .ok [⟨4, 35 :: hx u 16, 0, u, 0⟩] ∧ tokens ((35 :: hx u 16).take 16) = .error (2, 0) := by
  have hl := hx_len u 16
  constructor
  · rw [tokens, if_neg (by simp [hl]), skip_id (by decide) (by decide)]
    refine toks_one (f := (hx u 16).length) (by simp) ?_
    rw [next_hash]
    have hd : ((35 :: hx u 16).drop 1).take 16 = hx u 16 := by simp [List.take_of_length_le, hl]
    simp only [fltTok, hd]
    rw [if_pos ⟨hl, hx_all u 16⟩]
    have h1 : (35 :: hx u 16).drop 17 = [] := List.drop_eq_nil_of_le (by simp [hl])
    have h2 : (35 :: hx u 16).take 17 = 35 :: hx u 16 := List.take_of_length_le (by simp [hl])
    rw [h1, h2, hx_val hu 16 (by decide)]
    simp [aloneE, headB]
  · have e : (35 :: hx u 16).take 16 = 35 :: (hx u 16).take 15 := rfl
    have hl2 : ((hx u 16).take 15).length = 15 := by rw [List.length_take, hl]; rfl
    rw [e, tokens, if_neg (by simp [hl2]), skip_id (by decide) (by decide)]
    refine toks_err (by simp) ?_
    rw [next_hash]
    have hd : ((35 :: (hx u 16).take 15).drop 1).take 16 = (hx u 16).take 15 := by simp [List.take_of_length_le, hl2]
    simp only [fltTok, hd]
    rw [if_neg (by intro q; omega)]
    simp
end Go.Ev
