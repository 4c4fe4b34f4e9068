/- The lexer's small functions: what each answers. -/
import Derived.Test.YtccenddkgeglmaaDoorBDT
import Derived.Test.YtccenddkgeglmaaDoorL1
import Derived.Test.YtccenddkgeglmaaDoorEvC
set_option linter.all false
set_option linter.unusedVariables false
set_option linter.unusedSimpArgs false
namespace Go.Ev
open Go
set_option maxRecDepth 100000
set_option maxHeartbeats 4000000

/-- A reader of a text at a place. -/
def Rd (h : AHeap) (r : Nat) (s : List UInt8) (i : Nat) : Prop := ∃ ver, h.get r = some ⟨ver, .cells .own 0 [.str s, .int .i64 (i : Int)]⟩
/-- A heap that goes on: all old blocks but one are as they were. -/
structure Fr (r : Nat) (h h' : AHeap) : Prop where
  n : h.n ≤ h'.n
  old : ∀ b, b < h.n → b ≠ r → h'.get b = h.get b
theorem Fr.refl (r : Nat) (h : AHeap) : Fr r h h := ⟨Nat.le_refl _, fun _ _ _ => rfl⟩
theorem Fr.trans {r : Nat} {h h1 h2 : AHeap} (a : Fr r h h1) (b : Fr r h1 h2) : Fr r h h2 := ⟨Nat.le_trans a.n b.n, fun x hx hn => (b.old x (Nat.lt_of_lt_of_le hx a.n) hn).trans (a.old x hx hn)⟩
theorem Fr.upd {r : Nat} (h : AHeap) (v : Nat) (o : AObj) : Fr r h (h.upd r v o) := ⟨Nat.le_refl _, fun b _ hb => by rw [AHeap.get_upd, if_neg hb]⟩
theorem Fr.upd' {r : Nat} {h h1 : AHeap} (f : Fr r h h1) (v : Nat) (o : AObj) : Fr r h (h1.upd r v o) := f.trans (Fr.upd _ _ _)
theorem Fr.updNew {r b : Nat} {h h1 : AHeap} (f : Fr r h h1) (hb : h.n ≤ b) (v : Nat) (o : AObj) : Fr r h (h1.upd b v o) := ⟨f.n, fun x hx hn => by rw [AHeap.get_upd, if_neg (by omega)]; exact f.old x hx hn⟩
theorem Fr.alloc {r : Nat} {h h1 : AHeap} (f : Fr r h h1) (o : AObj) : Fr r h (h1.alloc o) := ⟨Nat.le_succ_of_le f.n, fun b hb hn => by rw [AHeap.get_alloc, if_neg (by have := f.n; omega)]; exact f.old b hb hn⟩

def PureB (g : Nat) (p : UInt8 → Bool) : Prop := ∀ c h Q, Q (.ret (.bool (p c))) h → WF F g [.int .u8 c.toNat] h Q
def atB (p : UInt8 → Bool) (s : List UInt8) (i : Nat) : Bool := match s[i]? with | some c => p c | none => false


theorem useB {Q : QR} {h : AHeap} {a b : Bool} (hQ : Q (.ret (.bool a)) h) (e : a = b) : Q (.ret (.bool b)) h := e ▸ hQ

theorem digit_spec : PureB 57 isDigit := by
  intro c h Q hQ
  refine WF.code F57 rfl ?_
  simp (maxSteps := 9999999) (disch := first | omega | (simp only [hN] <;> omega) | fail) only [go_sem, simprocAttr]
  repeat' ((first | refine condP_splitN (fun hb => ?_) (fun hb => ?_) | refine wantP_splitN (fun hb => ?_) (fun hb => ?_) | refine wantPD_splitN (fun hb => ?_) (fun hb => ?_) | refine condP_split (fun hb => ?_) (fun hb => ?_) | refine wantP_split (fun hb => ?_) (fun hb => ?_) | refine wantPD_split (fun hb => ?_) (fun hb => ?_)) <;> simp (maxSteps := 9999999) (disch := first | omega | (simp only [hN] <;> omega) | fail) only [go_sem, simprocAttr, hb])
  all_goals (refine useB hQ (Bool.eq_iff_iff.2 ?_); simp [isDigit] at *; try omega)
theorem letter_spec : PureB 55 isLetter := by
  intro c h Q hQ
  refine WF.code F55 rfl ?_
  simp (maxSteps := 9999999) (disch := first | omega | (simp only [hN] <;> omega) | fail) only [go_sem, simprocAttr]
  repeat' ((first | refine condP_splitN (fun hb => ?_) (fun hb => ?_) | refine wantP_splitN (fun hb => ?_) (fun hb => ?_) | refine wantPD_splitN (fun hb => ?_) (fun hb => ?_) | refine condP_split (fun hb => ?_) (fun hb => ?_) | refine wantP_split (fun hb => ?_) (fun hb => ?_) | refine wantPD_split (fun hb => ?_) (fun hb => ?_)) <;> simp (maxSteps := 9999999) (disch := first | omega | (simp only [hN] <;> omega) | fail) only [go_sem, simprocAttr, hb])
  all_goals (refine useB hQ (Bool.eq_iff_iff.2 ?_); simp [isLetter] at *; try omega)
theorem blank_spec : PureB 51 isBlank := by
  intro c h Q hQ
  refine WF.code F51 rfl ?_
  simp (maxSteps := 9999999) (disch := first | omega | (simp only [hN] <;> omega) | fail) only [go_sem, simprocAttr]
  repeat' ((first | refine condP_splitN (fun hb => ?_) (fun hb => ?_) | refine wantP_splitN (fun hb => ?_) (fun hb => ?_) | refine wantPD_splitN (fun hb => ?_) (fun hb => ?_) | refine condP_split (fun hb => ?_) (fun hb => ?_) | refine wantP_split (fun hb => ?_) (fun hb => ?_) | refine wantPD_split (fun hb => ?_) (fun hb => ?_)) <;> simp (maxSteps := 9999999) (disch := first | omega | (simp only [hN] <;> omega) | fail) only [go_sem, simprocAttr, hb])
  all_goals (refine useB hQ (Bool.eq_iff_iff.2 ?_); simp [isBlank] at *; try omega)
theorem notNL_spec : PureB 53 notNL := by
  intro c h Q hQ
  refine WF.code F53 rfl ?_
  simp (maxSteps := 9999999) (disch := first | omega | (simp only [hN] <;> omega) | fail) only [go_sem, simprocAttr]
  refine useB hQ (Bool.eq_iff_iff.2 ?_)
  simp [notNL]
  try omega
theorem inWord_spec : PureB 87 isWord := by
  intro c h Q hQ
  refine WF.code F87 rfl ?_
  simp (maxSteps := 9999999) (disch := first | omega | (simp only [hN] <;> omega) | fail) only [go_sem, simprocAttr]
  refine letter_spec _ _ _ ?_
  simp (maxSteps := 9999999) (disch := first | omega | (simp only [hN] <;> omega) | fail) only [go_sem, simprocAttr]
  (first | refine condP_splitN (fun hb => ?_) (fun hb => ?_) | refine wantP_splitN (fun hb => ?_) (fun hb => ?_) | refine wantPD_splitN (fun hb => ?_) (fun hb => ?_) | refine condP_split (fun hb => ?_) (fun hb => ?_) | refine wantP_split (fun hb => ?_) (fun hb => ?_) | refine wantPD_split (fun hb => ?_) (fun hb => ?_)) <;> simp (maxSteps := 9999999) (disch := first | omega | (simp only [hN] <;> omega) | fail) only [go_sem, simprocAttr, hb]
  · refine digit_spec _ _ _ ?_
    simp (maxSteps := 9999999) (disch := first | omega | (simp only [hN] <;> omega) | fail) only [go_sem, simprocAttr, hb]
    exact useB hQ (by simp [isWord, hb])
  · exact useB hQ (by simp [isWord, hb])
end Go.Ev
