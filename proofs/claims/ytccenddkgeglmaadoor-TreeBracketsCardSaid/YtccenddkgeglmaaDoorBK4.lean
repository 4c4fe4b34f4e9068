/- The lexer's tokens. -/
import Derived.Test.YtccenddkgeglmaaDoorBK3
set_option linter.all false
set_option linter.unusedVariables false
set_option linter.unusedSimpArgs false
namespace Go.Ev
open Go
set_option maxRecDepth 100000
set_option maxHeartbeats 4000000

theorem RdL.of {h h' : AHeap} {r : Nat} {s l : Bs} (hrd : RdL h r s l) (e : h'.get r = h.get r) : RdL h' r s l := ⟨hrd.1, by obtain ⟨v, hv⟩ := hrd.2; exact ⟨v, e.trans hv⟩⟩
theorem RdL.mk' {h : AHeap} {r v q : Nat} {s l : Bs} (hs : l <:+ s) (hq : q + l.length = s.length) (hr : h.get r = some ⟨v, .cells .own 0 [.str s, .int .i64 (q : Int)]⟩) : RdL h r s l := ⟨hs, v, by rw [show s.length - l.length = q by omega]; exact hr⟩
def tokAV (t : Tok) : AV := .agg [.int .i64 (t.kind : Int), .str t.text, .int .i64 (t.n : Int), .int .u64 (t.bits : Int), .int .i64 (t.pos : Int)]

/-- How a reading function ends: with a token and what is left, or in a panic. -/
def TokQ (r : Nat) (s : Bs) (h : AHeap) (Q : QR) : Except Err (Tok × Bs) → Prop
  | .ok (t, l') => ∀ h', RdL h' r s l' → Fr r h h' → Q (.ret (tokAV t)) h'
  | .error (e, p) => ∀ h', Fr r h h' → Q (tokStop e p) h'

theorem word_spec {r : Nat} {s l : Bs} {h : AHeap} (hG : GH h) (hr0 : 18 + 17 ≤ r) (hrn : r < h.n) (hbig : s.length < 2 ^ 62) (hrd : RdL h r s l) {Q : QR} (hQ : TokQ r s h Q (wordTok s.length l)) : WF F 56 [.ptr r 0] h Q := by
  have hl := suf_len hrd.1
  have hrd0 := hrd
  obtain ⟨hsuf, ver, hr⟩ := hrd
  refine WF.code F56 rfl ?_
  simp (maxSteps := 9999999) (disch := first | omega | (simp only [hN] <;> omega) | fail) only [go_sem, simprocAttr, hr]
  refine whileL hbig inWord_spec (hrd0.of (by simp (maxSteps := 9999999) (disch := first | omega | (simp only [hN] <;> omega) | fail) only [go_sem, simprocAttr])) ?_
  intro h1 hrd1 hf1
  have hG1 : GH h1 := hf1.gh hr0 (((hG.alloc _).alloc _).upd (by have := hG.n; omega) _ _)
  have ht : (l.takeWhile isWord).length ≤ l.length := (List.takeWhile_prefix _).length_le
  simp (maxSteps := 9999999) (disch := first | omega | (simp only [hN] <;> omega) | fail) only [go_sem, simprocAttr, hf1.old]
  have hn1 := hf1.n; try simp only [AHeap.alloc_n, AHeap.upd_n] at hn1
  (first | refine condP_splitN (fun hb => ?_) (fun hb => ?_) | refine wantP_splitN (fun hb => ?_) (fun hb => ?_) | refine wantPD_splitN (fun hb => ?_) (fun hb => ?_) | refine condP_split (fun hb => ?_) (fun hb => ?_) | refine wantP_split (fun hb => ?_) (fun hb => ?_) | refine wantPD_split (fun hb => ?_) (fun hb => ?_))
  · have hb' : 24 < (l.takeWhile isWord).length := (by have := of_decide_eq_true hb; omega)
    simp (maxSteps := 9999999) (disch := first | omega | (simp only [hN] <;> omega) | fail) only [go_sem, simprocAttr, hG1.g0, hb]
    refine stop_spec ?_
    simp (maxSteps := 9999999) (disch := first | omega | (simp only [hN] <;> omega) | fail) only [go_sem, simprocAttr]
    simp only [wordTok, if_pos hb', TokQ] at hQ
    exact hQ _ ⟨by (first | omega | (simp only [AHeap.alloc_n, AHeap.upd_n]; omega)), fun b hb hne => by (try simp only [AHeap.alloc_n, AHeap.upd_n] at hb hne); simp (maxSteps := 9999999) (disch := first | omega | (simp only [hN] <;> omega) | fail) only [go_sem, simprocAttr, hf1.old]⟩
  · have hb' : ¬ 24 < (l.takeWhile isWord).length := (by have := of_decide_eq_false hb; omega)
    simp (maxSteps := 9999999) (disch := first | omega | (simp only [hN] <;> omega) | fail) only [go_sem, simprocAttr, hb]
    refine key_spec ?_
    intro h2 hf2
    have hn2 := hf2.n; try simp only [AHeap.alloc_n, AHeap.upd_n] at hn2
    simp (maxSteps := 9999999) (disch := first | omega | (simp only [hN] <;> omega) | fail) only [go_sem, simprocAttr]
    simp only [wordTok, if_neg hb', TokQ] at hQ
    (first | refine condP_splitN (fun hk => ?_) (fun hk => ?_) | refine wantP_splitN (fun hk => ?_) (fun hk => ?_) | refine wantPD_splitN (fun hk => ?_) (fun hk => ?_) | refine condP_split (fun hk => ?_) (fun hk => ?_) | refine wantP_split (fun hk => ?_) (fun hk => ?_) | refine wantPD_split (fun hk => ?_) (fun hk => ?_))
    · rw [hk] at hQ
      simp (maxSteps := 9999999) (disch := first | omega | (simp only [hN] <;> omega) | fail) only [go_sem, simprocAttr, hk, hf2.old, hf1.old]
      exact hQ _ (hrd1.of (by simp (maxSteps := 9999999) (disch := first | omega | (simp only [hN] <;> omega) | fail) only [go_sem, simprocAttr, hf2.old])) ⟨by (first | omega | (simp only [AHeap.alloc_n, AHeap.upd_n]; omega)), fun b hb hne => by (try simp only [AHeap.alloc_n, AHeap.upd_n] at hb hne); simp (maxSteps := 9999999) (disch := first | omega | (simp only [hN] <;> omega) | fail) only [go_sem, simprocAttr, hf2.old, hf1.old]⟩
    · rw [hk] at hQ
      simp (maxSteps := 9999999) (disch := first | omega | (simp only [hN] <;> omega) | fail) only [go_sem, simprocAttr, hk, hf2.old, hf1.old]
      exact hQ _ (hrd1.of (by simp (maxSteps := 9999999) (disch := first | omega | (simp only [hN] <;> omega) | fail) only [go_sem, simprocAttr, hf2.old])) ⟨by (first | omega | (simp only [AHeap.alloc_n, AHeap.upd_n]; omega)), fun b hb hne => by (try simp only [AHeap.alloc_n, AHeap.upd_n] at hb hne); simp (maxSteps := 9999999) (disch := first | omega | (simp only [hN] <;> omega) | fail) only [go_sem, simprocAttr, hf2.old, hf1.old]⟩

theorem alone_spec {r : Nat} {s l : Bs} {h : AHeap} (hG : GH h) (hrd : RdL h r s l) {Q : QR} (hQ : if headB isWord l then Q (tokStop 2 (s.length - l.length)) h else Q (.ret (.tuple [])) h) : WF F 88 [.ptr r 0] h Q := by
  refine WF.code F88 rfl ?_
  simp (maxSteps := 9999999) (disch := first | omega | (simp only [hN] <;> omega) | fail) only [go_sem, simprocAttr]
  refine hereL inWord_spec hrd ?_
  obtain ⟨hsuf, ver, hr⟩ := hrd
  simp (maxSteps := 9999999) (disch := first | omega | (simp only [hN] <;> omega) | fail) only [go_sem, simprocAttr]
  (first | refine condP_splitN (fun hb => ?_) (fun hb => ?_) | refine wantP_splitN (fun hb => ?_) (fun hb => ?_) | refine wantPD_splitN (fun hb => ?_) (fun hb => ?_) | refine condP_split (fun hb => ?_) (fun hb => ?_) | refine wantP_split (fun hb => ?_) (fun hb => ?_) | refine wantPD_split (fun hb => ?_) (fun hb => ?_))
  · rw [if_pos hb] at hQ
    simp (maxSteps := 9999999) (disch := first | omega | (simp only [hN] <;> omega) | fail) only [go_sem, simprocAttr, hr, hG.g2]
    refine stop_spec ?_
    simp (maxSteps := 9999999) (disch := first | omega | (simp only [hN] <;> omega) | fail) only [go_sem, simprocAttr]
    exact hQ
  · rw [hb] at hQ
    simp (maxSteps := 9999999) (disch := first | omega | (simp only [hN] <;> omega) | fail) only [go_sem, simprocAttr, hb]
    exact hQ
end Go.Ev
