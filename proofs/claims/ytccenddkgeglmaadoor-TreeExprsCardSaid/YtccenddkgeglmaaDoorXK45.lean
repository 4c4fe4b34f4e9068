/- The document's reader of trees: rows of operators. -/
import Derived.Test.YtccenddkgeglmaaDoorXK20
import Derived.Test.YtccenddkgeglmaaDoorXK23
import Derived.Test.YtccenddkgeglmaaDoorEvC
import Derived.Test.YtccenddkgeglmaaDoorPuA
set_option linter.all false
set_option linter.unusedVariables false
set_option linter.unusedSimpArgs false
namespace Go.Ev
open Go
set_option maxRecDepth 100000
set_option maxHeartbeats 4000000

def RQ (h : AHeap) (r E : Nat) (all : List Tok) (q : Nat) (Q : QR) : PR → Prop
  | .ok (n, ts') => ∀ h' kv nx', all.drop nx' = ts' → Fr r h h' → RInv h' r E all nx' 0 q → KidsR h.n h' n.kids kv → Q (.ret (.agg (ndC n kv))) h'
  | .error (e, p) => ∀ h' n kv nx', e ≠ 0 → Fr r h h' → RInv h' r E all nx' e p → kv.flat = true → kv.cells = [kv] → Q (.ret (.agg (ndC n kv))) h'
/-- A function of the document's reader does what a parser does. -/
def RSpec (fid : FuncId) (pre : List AV) (E : Nat) (u : PT) : Prop := ∀ {h : AHeap} {r lv nx q : Nat} {all : List Tok} {Q : QR}, lv ≤ 16 → RInv h r E all nx 0 q → u lv (all.drop nx) ≠ .error (0, 0) → RQ h r E all q Q (u lv (all.drop nx)) → WF F fid (.ptr r 0 :: (pre ++ [.int .i64 (lv : Int)])) h Q
theorem rexpr_bad {h : AHeap} {r E nx e q : Nat} {all : List Tok} {k lv : Int} (hp : RInv h r E all nx e q) (he : e ≠ 0) {Q : QR} (hQ : ∀ h', Fr h.n h h' → Q (.ret (.agg zN)) h') : WF F 40 [.ptr r 0, .int .i64 k, .int .i64 lv] h Q := by
  refine WF.code F40 rfl ?_
  have hlt := hp.hi
  obtain ⟨ver, v, h1, h2, h3, h4⟩ := hp.st
  have e0 : ((e : Int) != 0) = true := by simp; omega
  simp (disch := first | omega | (simp only [hN] <;> omega) | fail) only [go_sem, simprocAttr, h1, e0]
  exact hQ _ ⟨by first | omega | (simp only [hN]; omega), fun b hb hne => by (try simp only [hN] at hb hne); simp (disch := first | omega | (simp only [hN] <;> omega) | fail) only [go_sem, simprocAttr]⟩
theorem rexpr_un {E : Nat} {u : PT} (hu : RSpec 69 [] E u) : RSpec 40 [.int .i64 6] E u := by
  intro h r lv nx q all Q hlv hp hz hQ
  refine WF.code F40 rfl ?_
  have hlt := hp.hi
  obtain ⟨ver, v, h1, h2, h3, h4⟩ := hp.st
  have e0 : ((0 : Int) != 0) = false := rfl
  simp (disch := first | omega | (simp only [hN] <;> omega) | fail) only [go_sem, simprocAttr, h1, Int.natCast_zero, e0, List.cons_append, List.nil_append]
  have hp1 : RInv (h.alloc (.cells .own 0 zN)) r E all nx 0 q := hp.fr ⟨by first | omega | (simp only [hN]; omega), fun b hb hne => by (try simp only [hN] at hb hne); simp (disch := first | omega | (simp only [hN] <;> omega) | fail) only [go_sem, simprocAttr]⟩
  refine hu hlv hp1 hz ?_
  cases hx : u lv (all.drop nx) with
  | error e =>
    obtain ⟨e, p⟩ := e
    rw [hx] at hQ
    intro h2 n kv nx' he hf2 hp2 k1 k2
    have hn2 := hf2.n; try simp only [hN] at hn2
    simp (disch := first | omega | (simp only [hN] <;> omega) | fail) only [go_sem, simprocAttr, hf2.old, k1, k2]
    exact hQ _ n kv nx' he ⟨by first | omega | (simp only [hN]; omega), fun b hb hne => by (try simp only [hN] at hb hne); simp (disch := first | omega | (simp only [hN] <;> omega) | fail) only [go_sem, simprocAttr, hf2.old]⟩ (hp2.fr' (q' := h.n) (Fr.upd _ _ _) hlt) k1 k2
  | ok y =>
    obtain ⟨n, ts'⟩ := y
    rw [hx] at hQ
    intro h2 kv nx' hd hf2 hp2 hk2
    have hn2 := hf2.n; try simp only [hN] at hn2
    simp (disch := first | omega | (simp only [hN] <;> omega) | fail) only [go_sem, simprocAttr, hf2.old, hk2.flat.1, hk2.flat.2]
    exact hQ _ kv nx' hd ⟨by first | omega | (simp only [hN]; omega), fun b hb hne => by (try simp only [hN] at hb hne); simp (disch := first | omega | (simp only [hN] <;> omega) | fail) only [go_sem, simprocAttr, hf2.old]⟩ (hp2.fr' (q' := h.n) (Fr.upd _ _ _) hlt) (hk2.keep (by simp (disch := first | omega | (simp only [hN] <;> omega) | fail) only [go_sem, simprocAttr]; omega) (by simp (disch := first | omega | (simp only [hN] <;> omega) | fail) only [go_sem, simprocAttr]; exact Nat.le_refl _) fun b hb1 hb2 => by simp only [AHeap.alloc_n] at hb1; simp (disch := first | omega | (simp only [hN] <;> omega) | fail) only [go_sem, simprocAttr])
/-- The same, without cases. -/
theorem RQ.all {h : AHeap} {r E q : Nat} {all : List Tok} {Q : QR} {R : PR} (hR : R ≠ .error (0, 0)) (hR0 : ∀ e p, R = .error (e, p) → e ≠ 0)
    (w : ∀ h' n kv nx' e p, Fr r h h' → RInv h' r E all nx' e p → kv.flat = true → kv.cells = [kv] → ((e = 0 ∧ p = q ∧ KidsR h.n h' n.kids kv ∧ R = .ok (n, all.drop nx')) ∨ (e ≠ 0 ∧ R = .error (e, p))) → Q (.ret (.agg (ndC n kv))) h') : RQ h r E all q Q R := by
  cases R with
  | error x =>
    obtain ⟨e, p⟩ := x
    intro h' n kv nx' he hf hp f1 f2
    exact w h' n kv nx' e p hf hp f1 f2 (.inr ⟨he, rfl⟩)
  | ok y =>
    obtain ⟨n, ts'⟩ := y
    intro h' kv nx' hd hf hp hk
    exact w h' n kv nx' 0 q hf hp hk.flat.1 hk.flat.2 (.inl ⟨rfl, rfl, hk, by rw [hd]⟩)
theorem RQ.use {h h' : AHeap} {r E q : Nat} {all : List Tok} {Q : QR} {R : PR} (hQ : RQ h r E all q Q R) {n : Nd} {kv : AV} {nx' e p : Nat} (hf : Fr r h h') (hp : RInv h' r E all nx' e p) (f1 : kv.flat = true) (f2 : kv.cells = [kv]) (hc : (e = 0 ∧ p = q ∧ KidsR h.n h' n.kids kv ∧ R = .ok (n, all.drop nx')) ∨ (e ≠ 0 ∧ R = .error (e, p))) : Q (.ret (.agg (ndC n kv))) h' := by
  rcases hc with ⟨rfl, rfl, hk, rfl⟩ | ⟨he, rfl⟩
  · exact hQ h' kv nx' rfl hf hp hk
  · exact hQ h' n kv nx' he hf hp f1 f2
theorem isR_text {ops : List Bs} {ts : List Tok} (h : isT ops ts = true) : seesT 0 ts = (hdT 0 ts).text := by
  cases ts with
  | nil => simp [isT] at h
  | cons t ts =>
    simp only [isT, Bool.and_eq_true, Bool.or_eq_true, decide_eq_true_eq] at h
    simp only [seesT, if_true, hdT]
    rw [if_pos h.1]
theorem rexpr_row {E k : Nat} (hk1 : 1 ≤ k) (hk5 : k ≤ 5) {u : PT} (hF : ∀ lv ts e p, u lv ts = .error (e, p) → e ≠ 0 ∨ (e, p) = (0, 0)) (hu : RSpec 40 [.int .i64 ((k + 1 : Nat) : Int)] E u) : RSpec 40 [.int .i64 (k : Int)] E (rowP (decide (k ≠ 3)) (opsR k) u) := by
  intro h r lv nx q all Q hlv hp hz hQ
  refine WF.code F40 rfl ?_
  have hlt := hp.hi
  obtain ⟨ver, v, h1, h2, h3, h4⟩ := hp.st
  have e0 : ((0 : Int) != 0) = false := rfl
  have g5 : decide ((k : Int) > 5) = false := decide_eq_false (by omega)
  have ek : ((k : Int) + 1) = ((k + 1 : Nat) : Int) := by omega
  simp (disch := first | omega | (simp only [hN] <;> omega) | fail) only [go_sem, simprocAttr, h1, Int.natCast_zero, e0, List.cons_append, List.nil_append, g5, ek]
  have hp1 : RInv (h.alloc (.cells .own 0 zN)) r E all nx 0 q := hp.fr ⟨by first | omega | (simp only [hN]; omega), fun b hb hne => by (try simp only [hN] at hb hne); simp (disch := first | omega | (simp only [hN] <;> omega) | fail) only [go_sem, simprocAttr]⟩
  clear h1 h2 h3 h4
  have hu1 : u lv (all.drop nx) ≠ .error (0, 0) := by
    intro e; unfold rowP at hz; rw [e] at hz; exact hz rfl
  have hR0 : ∃ R, rowP (decide (k ≠ 3)) (opsR k) u lv (all.drop nx) = R := ⟨_, rfl⟩
  obtain ⟨R, hR⟩ := hR0
  rw [hR] at hz hQ
  unfold rowP at hR
  generalize hmany : decide (k ≠ 3) = many at hR
  refine hu hlv hp1 hu1 (RQ.all hu1 (fun e p he => by rcases hF _ _ _ _ he with g | g; exact g; rw [he, g] at hu1; exact absurd rfl hu1) ?_)
  intro h1 n kv nx1 e p hf1 hp2 k1 k2 hc
  have hn1 := hf1.n; try simp only [hN] at hn1
  have q0 : h1.get h.n = some ⟨0, .cells .own 0 zN⟩ := by simp (disch := first | omega | (simp only [hN] <;> omega) | fail) only [go_sem, simprocAttr, hf1.old]
  have hf : ∀ b', b' < h.n → b' ≠ r → h1.get b' = h.get b' := fun b' hb' hr' => by simp (disch := first | omega | (simp only [hN] <;> omega) | fail) only [go_sem, simprocAttr, hf1.old]
  obtain ⟨fu, hfu⟩ : ∃ fu, (e = 0 ∧ p = q ∧ KidsR (h.n + 1) h1 n.kids kv ∧ rowL u many (opsR k) lv fu n (all.drop nx1) = R) ∨ (e ≠ 0 ∧ R = .error (e, p)) := by
    rcases hc with ⟨rfl, rfl, hk, hx⟩ | ⟨he, hx⟩
    · rw [hx] at hR
      exact ⟨_, .inl ⟨rfl, rfl, hk, hR⟩⟩
    · rw [hx] at hR
      exact ⟨0, .inr ⟨he, hR.symm⟩⟩
  clear hc hf1 hR
  simp (disch := first | omega | (simp only [hN] <;> omega) | fail) only [go_sem, simprocAttr, k1, k2]
  refine wp_loopx 0 (fun f a h' => ∃ nd nx2 kv2 v2 e p, h'.get h1.n = some ⟨v2, .cells .own 0 (ndC nd kv2)⟩ ∧ RInv h' r E all nx2 e p ∧ (kv2.flat = true ∧ kv2.cells = [kv2]) ∧ h1.n + 1 ≤ h'.n ∧ (∀ b', b' < h1.n → b' ≠ r → h'.get b' = h1.get b') ∧ ((e = 0 ∧ p = q ∧ KidsR (h.n + 1) h' nd.kids kv2 ∧ rowL u many (opsR k) lv f nd (all.drop nx2) = R) ∨ (e ≠ 0 ∧ R = .error (e, p))) ∧ a.tm.get 0 = some (.ptr r 0) ∧ a.tm.get 1 = some (.int .i64 (k : Int)) ∧ a.tm.get 2 = some (.int .i64 (lv : Int)) ∧ a.tm.get 6 = some (.ptr h.n 0) ∧ a.tm.get 7 = some (.ptr h1.n 0) ∧ a.df = [])
    (fun a h' => ∃ nd nx2 kv2 v2 e p, h'.get h1.n = some ⟨v2, .cells .own 0 (ndC nd kv2)⟩ ∧ RInv h' r E all nx2 e p ∧ (kv2.flat = true ∧ kv2.cells = [kv2]) ∧ h1.n + 1 ≤ h'.n ∧ (∀ b', b' < h1.n → b' ≠ r → h'.get b' = h1.get b') ∧ ((e = 0 ∧ p = q ∧ KidsR (h.n + 1) h' nd.kids kv2 ∧ R = .ok (nd, all.drop nx2)) ∨ (e ≠ 0 ∧ R = .error (e, p))) ∧ a.tm.get 6 = some (.ptr h.n 0) ∧ a.tm.get 7 = some (.ptr h1.n 0) ∧ a.df = []) ?_ ?_ fu ?_
  · rintro f ⟨t, df⟩ h2 ⟨nd, nx2, kv2, v2, e, p, qX, hp2, ⟨f1, f2⟩, hn2, hf2, hc, j0, j1, j2, j6, j7, hdf⟩
    simp only at j0 j1 j2 j6 j7 hdf
    subst hdf
    have hlt2 := hp2.hi
    obtain ⟨ver, v, g1, g2, g3, g4⟩ := hp2.st
    rcases hc with ⟨rfl, rfl, hk2, hrow⟩ | ⟨he, hrow⟩
    · cases f with
      | zero => exact absurd hrow.symm hz
      | succ f =>
        have e0 : ((0 : Int) == 0) = true := rfl
        simp (disch := first | omega | (simp only [hN] <;> omega) | fail) only [go_sem, simprocAttr, j0, j1, j2, j6, j7, g1, Int.natCast_zero, e0]
        refine sees_tok hp2 ?_
        intro h3 hf3
        have hn3 := hf3.n; try simp only [hN] at hn3
        have hp3 := hp2.fr hf3
        simp (disch := first | omega | (simp only [hN] <;> omega) | fail) only [go_sem, simprocAttr, j0, j1, j2, j6, j7]
        refine rank_tok ?_
        have hrk := rank_is hk1 hk5 (ts := all.drop nx2)
        rw [rowL] at hrow
        by_cases hi : isT (opsR k) (all.drop nx2) = true
        · rw [if_pos hi] at hrow
          have hrk' := hrk.2 hi
          rw [hrk']
          have eb : ((k : Int) == (k : Int)) = true := beq_self_eq_true _
          have hS := isR_text hi
          simp (disch := first | omega | (simp only [hN] <;> omega) | fail) only [go_sem, simprocAttr, j0, j1, j2, j6, j7, eb]
          refine sees_tok hp3 ?_
          rw [hS]
          intro h4 hf4
          have hn4 := hf4.n; try simp only [hN] at hn4
          have hp4 := hp3.fr hf4
          obtain ⟨ver4, v4, i1, i2, i3, i4⟩ := hp4.st
          have hnx := drop_ne (isT_ne hi)
          have hsm := hp.small
          simp (disch := first | omega | (simp only [hN] <;> omega) | fail) only [go_sem, simprocAttr, j0, j1, j2, j6, j7, i1, i3.1, i3.2, ek]
          have htl : (all.drop nx2).tail = all.drop (nx2 + 1) := List.tail_drop
          have hp5 : RInv (h4.upd r (ver4 + 1) (.cells .own 0 [v4, .int .i64 (E : Int), .int .i64 ((nx2 : Int) + 1), .int .i64 0, .int .i64 (p : Int)])) r E all (nx2 + 1) 0 p := hp4.step (Fr.upd _ _ _) hnx i1 (by (first | (simp (disch := first | omega | (simp only [hN] <;> omega) | fail) only [go_sem, simprocAttr]; done) | (simp (disch := first | omega | (simp only [hN] <;> omega) | fail) only [go_sem, simprocAttr]; rfl)))
          have qX4 : h4.get h1.n = some ⟨v2, .cells .own 0 (ndC nd kv2)⟩ := by rw [hf4.all (by omega), hf3.all (by omega)]; exact qX
          have hf4' : ∀ b', b' < h1.n → b' ≠ r → h4.get b' = h1.get b' := fun b' hb' hr' => by rw [hf4.all (by omega), hf3.all (by omega)]; exact hf2 _ hb' hr'
          have hk4 : KidsR (h.n + 1) h4 nd.kids kv2 := hk2.keep (Nat.le_refl _) (by omega) fun b' hb1 hb2 => by rw [hf4.all (by omega), hf3.all (by omega)]
          have hlt4 := hp4.hi
          have hn4' : h1.n + 1 ≤ h4.n := by omega
          clear hf4 hf3 hf2 qX hp3 hp2 hk2 hn2 hn3 hn4 g1 g2 g3 g4 i1 i2 i3 i4 hp4
          rw [htl] at hrow
          generalize (hdT 0 (all.drop nx2)).text = OP at *
          have hz2 : u lv (all.drop (nx2 + 1)) ≠ .error (0, 0) := by
            intro e; rw [e] at hrow; exact hz hrow.symm
          refine hu hlv hp5 hz2 (RQ.all hz2 (fun e p he => by rcases hF _ _ _ _ he with g | g; exact g; rw [he, g] at hz2; exact absurd rfl hz2) ?_)
          intro h5 m kv5 nx5 e5 p5 hf5 hp6 k51 k52 hc5
          have hn5 := hf5.n; try simp only [hN] at hn5
          have q95 : h5.get h1.n = some ⟨v2, .cells .own 0 (ndC nd kv2)⟩ := by rw [hf5.old _ (by simp (disch := first | omega | (simp only [hN] <;> omega) | fail) only [go_sem, simprocAttr]; omega) (by omega), AHeap.get_upd, if_neg (by omega)]; exact qX4
          simp (disch := first | omega | (simp only [hN] <;> omega) | fail) only [go_sem, simprocAttr, q95, f1, f2, k51, k52, j0, j1, j2, j6, j7]
          generalize hI : AHeap.upd (AHeap.alloc _ _) h1.n _ _ = I
          have hIn : I.n = h5.n + 2 := by rw [← hI]; simp (disch := first | omega | (simp only [hN] <;> omega) | fail) only [go_sem, simprocAttr]
          have hIX : I.get h1.n = some ⟨v2 + 1, .cells .own 0 (ndC (binN nd OP m) (.slice (h5.n + 1) 0 2 2 true))⟩ := by rw [← hI]; simp (disch := first | omega | (simp only [hN] <;> omega) | fail) only [go_sem, simprocAttr]; rfl
          have hIo : ∀ b', b' < h5.n → b' ≠ h1.n → I.get b' = h5.get b' := fun b' hb1 hb2 => by rw [← hI]; simp (disch := first | omega | (simp only [hN] <;> omega) | fail) only [go_sem, simprocAttr]
          have hI2 : I.get (h5.n + 1) = some ⟨0, .cells .own 9 (ndC nd kv2 ++ ndC m kv5)⟩ := by rw [← hI]; simp (disch := first | omega | (simp only [hN] <;> omega) | fail) only [go_sem, simprocAttr]; rfl
          clear hI
          have hp7 : RInv I r E all nx5 e5 p5 := hp6.fr' (q' := h1.n) ⟨by omega, fun b hb hne => hIo b hb hne⟩ (by omega)
          have hIf : ∀ b', b' < h1.n → b' ≠ r → I.get b' = h1.get b' := fun b' hb1 hb2 => by rw [hIo b' (by omega) (by omega), hf5.old b' (by simp (disch := first | omega | (simp only [hN] <;> omega) | fail) only [go_sem, simprocAttr]; omega) hb2, AHeap.get_upd, if_neg hb2]; exact hf4' b' hb1 hb2
          have hk6 : (e5 = 0 ∧ p5 = p ∧ KidsR (h.n + 1) I (binN nd OP m).kids (.slice (h5.n + 1) 0 2 2 true) ∧ u lv (all.drop (nx2 + 1)) = .ok (m, all.drop nx5)) ∨ (e5 ≠ 0 ∧ u lv (all.drop (nx2 + 1)) = .error (e5, p5)) := by
            refine hc5.imp (fun g => ⟨g.1, g.2.1, ?_, g.2.2.2⟩) id
            refine KidsR.two (ver := 0) (kv := kv2) (mv := kv5) (hk4.keep9 (Nat.le_refl _) (by omega) fun b' _ _ _ hb1 hb2 hb3 => ?_) (g.2.2.1.keep9 (by simp (disch := first | omega | (simp only [hN] <;> omega) | fail) only [go_sem, simprocAttr]; omega) (by omega) fun b' _ _ _ hb1 hb2 hb3 => ?_) (by omega) (by omega) hI2
            · by_cases hb9 : b' = h1.n
              · subst hb9; rw [qX4] at hb3; cases hb3
              · rw [hIo b' (by omega) hb9, hf5.old _ (by simp (disch := first | omega | (simp only [hN] <;> omega) | fail) only [go_sem, simprocAttr]; omega) (by omega), AHeap.get_upd, if_neg (by omega)]
            · by_cases hb9 : b' = h1.n
              · subst hb9; rw [q95] at hb3; cases hb3
              · rw [hIo b' (by omega) hb9]
          clear hc5 hf5 hIo hI2 q95 hk4
          cases many with
          | true =>
            have k3 : k ≠ 3 := of_decide_eq_true hmany
            have eb3 : ((k : Int) == 3) = false := by simp; omega
            simp (disch := first | omega | (simp only [hN] <;> omega) | fail) only [go_sem, simprocAttr, eb3, j0, j1, j2, j6, j7]
            refine ⟨f, Nat.lt_succ_self _, binN nd OP m, nx5, _, _, e5, p5, hIX, hp7, ⟨rfl, rfl⟩, by omega, hIf, ?_⟩
            rcases hk6 with ⟨rfl, rfl, hk, hx⟩ | ⟨he, hx⟩
            · rw [hx] at hrow
              exact .inl ⟨rfl, rfl, hk, hrow⟩
            · rw [hx] at hrow
              exact .inr ⟨he, hrow.symm⟩
          | false =>
            have k3 : k = 3 := by
              have := of_decide_eq_false hmany
              omega
            have eb3 : ((k : Int) == 3) = true := by simp; omega
            simp (disch := first | omega | (simp only [hN] <;> omega) | fail) only [go_sem, simprocAttr, eb3, j0, j1, j2, j6, j7]
            refine ⟨binN nd OP m, nx5, _, _, e5, p5, hIX, hp7, ⟨rfl, rfl⟩, by omega, hIf, ?_⟩
            rcases hk6 with ⟨rfl, rfl, hk, hx⟩ | ⟨he, hx⟩
            · rw [hx] at hrow
              exact .inl ⟨rfl, rfl, hk, hrow.symm⟩
            · rw [hx] at hrow
              exact .inr ⟨he, hrow.symm⟩
        · rw [if_neg hi] at hrow
          have hrk' : ¬ rankT (seesT 0 (all.drop nx2)) = k := fun hh => hi (hrk.1 hh)
          generalize rankT (seesT 0 (all.drop nx2)) = rk at hrk' ⊢
          have eb : ((rk : Int) == (k : Int)) = false := by simp; omega
          simp (disch := first | omega | (simp only [hN] <;> omega) | fail) only [go_sem, simprocAttr, j0, j1, j2, j6, j7, eb]
          exact ⟨nd, nx2, kv2, v2, 0, p, by rw [hf3.all (by omega)]; exact qX, hp3, ⟨f1, f2⟩, by omega, fun b hb hr => by rw [hf3.all (by omega)]; exact hf2 b hb hr, .inl ⟨rfl, rfl, hk2.fr hf3 (.inr (Nat.le_refl _)), hrow.symm⟩⟩
    · have e0 : ((e : Int) == 0) = false := by simp; omega
      simp (disch := first | omega | (simp only [hN] <;> omega) | fail) only [go_sem, simprocAttr, j0, j1, j2, j6, j7, g1, e0]
      exact ⟨nd, nx2, kv2, v2, e, p, qX, hp2, ⟨f1, f2⟩, hn2, hf2, .inr ⟨he, hrow⟩⟩
  · rintro ⟨t, df⟩ h2 ⟨nd, nx2, kv2, v2, e, p, qX, hp2, ⟨f1, f2⟩, hn2, hf2, hc, j6, j7, hdf⟩
    simp only at j6 j7 hdf
    subst hdf
    have q02 : h2.get h.n = some ⟨0, .cells .own 0 zN⟩ := by rw [hf2 _ (by omega) (by omega)]; exact q0
    simp (disch := first | omega | (simp only [hN] <;> omega) | fail) only [go_sem, simprocAttr, j6, j7, qX, f1, f2, q02]
    refine hQ.use (nx' := nx2) (e := e) (p := p) ⟨by first | omega | (simp only [hN]; omega), fun b hb hne => by (try simp only [hN] at hb hne); simp (disch := first | omega | (simp only [hN] <;> omega) | fail) only [go_sem, simprocAttr, hf2, hf]⟩ (hp2.fr' (q' := h.n) (Fr.upd _ _ _) hlt) f1 f2 (hc.imp (fun g => ⟨g.1, g.2.1, ?_, g.2.2.2⟩) id)
    exact g.2.2.1.keep (by omega) (by simp (disch := first | omega | (simp only [hN] <;> omega) | fail) only [go_sem, simprocAttr]; exact Nat.le_refl _) fun b' hb1 hb2 => by simp (disch := first | omega | (simp only [hN] <;> omega) | fail) only [go_sem, simprocAttr]
  · refine ⟨n, nx1, kv, 1, e, p, by simp (disch := first | omega | (simp only [hN] <;> omega) | fail) only [go_sem, simprocAttr], hp2.fr ⟨by first | omega | (simp only [hN]; omega), fun b hb hne => by (try simp only [hN] at hb hne); simp (disch := first | omega | (simp only [hN] <;> omega) | fail) only [go_sem, simprocAttr]⟩, ⟨k1, k2⟩, by simp (disch := first | omega | (simp only [hN] <;> omega) | fail) only [go_sem, simprocAttr]; omega, fun b' hb1 hb2 => by simp (disch := first | omega | (simp only [hN] <;> omega) | fail) only [go_sem, simprocAttr], hfu.imp (fun g => ⟨g.1, g.2.1, g.2.2.1.keep (Nat.le_refl _) (by simp (disch := first | omega | (simp only [hN] <;> omega) | fail) only [go_sem, simprocAttr]; omega) fun b' hb1 hb2 => by simp (disch := first | omega | (simp only [hN] <;> omega) | fail) only [go_sem, simprocAttr], g.2.2.2⟩) id, ?_⟩
    simp (disch := first | omega | (simp only [hN] <;> omega) | fail) only [go_sem, simprocAttr]
end Go.Ev
/- The document's reader of trees: targets. -/
namespace Go.Ev
open Go
set_option maxRecDepth 100000
set_option maxHeartbeats 4000000

/-- Errors have a number, but where fuel is short. -/
def ErrP (u : PT) : Prop := ∀ lv ts e p, u lv ts = .error (e, p) → e ≠ 0 ∨ (e, p) = (0, 0)
theorem rowL_errP {u : PT} (hu : ErrP u) {many : Bool} {ops : List Bs} {lv : Nat} : ∀ (f : Nat) (n : Nd) (ts : List Tok) (e p : Nat), rowL u many ops lv f n ts = .error (e, p) → e ≠ 0 ∨ (e, p) = (0, 0)
  | 0, _, _, e, p, h => by cases h; exact .inr rfl
  | f + 1, n, ts, e, p, h => by
    rw [rowL] at h
    split at h
    · cases hx : u lv ts.tail with
      | error x => rw [hx] at h; cases h; exact hu _ _ _ _ hx
      | ok y =>
        obtain ⟨k, ts'⟩ := y
        rw [hx] at h
        simp only at h
        split at h
        · exact rowL_errP hu f _ _ _ _ h
        · cases h
    · cases h
theorem rowP_errP {u : PT} (hu : ErrP u) {many : Bool} {ops : List Bs} : ErrP (rowP many ops u) := by
  intro lv ts e p h
  unfold rowP at h
  cases hx : u lv ts with
  | error x => rw [hx] at h; cases h; exact hu _ _ _ _ hx
  | ok y => obtain ⟨k, ts'⟩ := y; rw [hx] at h; exact rowL_errP hu _ _ _ _ _ h
theorem exprOf_errP {u : PT} (hu : ErrP u) : ErrP (exprOf u) := rowP_errP (rowP_errP (rowP_errP (rowP_errP (rowP_errP hu))))
theorem inP_errP {E : Nat} {a b : Bs} {x : PT} (hx : ErrP x) : ErrP (inP E a b x) := by
  intro lv ts e p h
  unfold inP at h
  split at h
  · split at h
    · cases h; exact .inl (by decide)
    · cases hy : x (lv + 1) ts.tail with
      | error y => rw [hy] at h; cases h; exact hx _ _ _ _ hy
      | ok y =>
        obtain ⟨k, ts'⟩ := y
        rw [hy] at h
        simp only at h
        split at h
        · cases h
        · cases h; exact .inl (by decide)
  · cases h; exact .inl (by decide)
theorem nameP_errP {E : Nat} {x : PT} (hx : ErrP x) : ErrP (nameP E x) := by
  intro lv ts e p h
  unfold nameP at h
  split at h
  · cases hy : inP E [91] [93] x lv ts.tail with
    | error y => rw [hy] at h; cases h; exact inP_errP hx _ _ _ _ hy
    | ok y => obtain ⟨k, ts'⟩ := y; rw [hy] at h; cases h
  · cases h
theorem primP_errP {E : Nat} {x : PT} (hx : ErrP x) : ErrP (primP E x) := by
  intro lv ts e p h
  unfold primP at h
  split at h
  · cases h
  split at h
  · cases h
  split at h
  · exact nameP_errP hx _ _ _ _ h
  split at h
  · cases h
  split at h
  · cases h
  split at h
  · cases hy : inP E [40] [41] x lv ts.tail with
    | error y => rw [hy] at h; cases h; exact inP_errP hx _ _ _ _ hy
    | ok y => obtain ⟨k, ts'⟩ := y; rw [hy] at h; cases h
  · exact inP_errP hx _ _ _ _ h
theorem unP_errP {E : Nat} : ∀ f, ErrP (unP E f)
  | 0 => by intro lv ts e p h; cases h; exact .inr rfl
  | f + 1 => by
    intro lv ts e p h
    rw [unP] at h
    split at h
    · split at h
      · cases h; exact .inl (by decide)
      · cases hy : unP E f (lv + 1) ts.tail with
        | error y => rw [hy] at h; cases h; exact unP_errP f _ _ _ _ hy
        | ok y => obtain ⟨k, ts'⟩ := y; rw [hy] at h; cases h
    · exact primP_errP (exprOf_errP (unP_errP f)) lv ts e p h
theorem ErrP.ne {u : PT} (hu : ErrP u) {lv : Nat} {ts : List Tok} (hz : u lv ts ≠ .error (0, 0)) : ∀ e p, u lv ts = .error (e, p) → e ≠ 0 := by
  intro e p he
  rcases hu _ _ _ _ he with g | g
  · exact g
  · rw [he, g] at hz; exact absurd rfl hz

theorem rtarget_tok {E : Nat} {x : PT} (hx : RSpec 40 [.int .i64 1] E x) (hxe : ErrP x) {h : AHeap} {r lv nx q : Nat} {all : List Tok} {Q : QR} (hlv : lv ≤ 16) (hp : RInv h r E all nx 0 q) (h1k : (hdT E (all.drop nx)).kind = 1) (hz : nameP E x lv (all.drop nx) ≠ .error (0, 0)) (hQ : RQ h r E all q Q (nameP E x lv (all.drop nx))) : WF F 97 [.ptr r 0, .int .i64 (lv : Int)] h Q := by
  refine WF.code F97 rfl ?_
  have hlt := hp.hi
  obtain ⟨ver, v, h1, h2, h3, h4⟩ := hp.st
  have e0 : ((0 : Int) != 0) = false := rfl
  simp (disch := first | omega | (simp only [hN] <;> omega) | fail) only [go_sem, simprocAttr, h1, Int.natCast_zero, e0]
  have hp1 : RInv (h.alloc (.cells .own 0 zN)) r E all nx 0 q := hp.fr ⟨by first | omega | (simp only [hN]; omega), fun b hb hne => by (try simp only [hN] at hb hne); simp (disch := first | omega | (simp only [hN] <;> omega) | fail) only [go_sem, simprocAttr]⟩
  clear h1 h2 h3 h4
  refine token_tok (k := 1) (by decide) hp1 ?_
  unfold TokQ'
  rw [if_pos rfl, if_pos h1k]
  intro h1 hf1 hp2
  have hn1 := hf1.n; try simp only [hN] at hn1
  have q0 : h1.get h.n = some ⟨0, .cells .own 0 zN⟩ := by simp (disch := first | omega | (simp only [hN] <;> omega) | fail) only [go_sem, simprocAttr, hf1.old]
  have hf : ∀ b', b' < h.n → b' ≠ r → h1.get b' = h.get b' := fun b' hb' hr' => by simp (disch := first | omega | (simp only [hN] <;> omega) | fail) only [go_sem, simprocAttr, hf1.old]
  have htl : (all.drop nx).tail = all.drop (nx + 1) := List.tail_drop
  unfold nameP at hz hQ
  rw [htl] at hz hQ
  clear hf1
  generalize hdT E (all.drop nx) = t at *
  simp (disch := first | omega | (simp only [hN] <;> omega) | fail) only [go_sem, simprocAttr, tokAV]
  refine sees_tok (hp2.fr ⟨by first | omega | (simp only [hN]; omega), fun b hb hne => by (try simp only [hN] at hb hne); simp (disch := first | omega | (simp only [hN] <;> omega) | fail) only [go_sem, simprocAttr]⟩) ?_
  intro h2 hf2
  have hn2 := hf2.n; try simp only [hN] at hn2
  have hs := seesT_is (w := [91]) (by simp) (ts := all.drop (nx + 1))
  generalize seesT 0 (all.drop (nx + 1)) = S at hs ⊢
  have q1 : h2.get (h1.n + 1) = some ⟨1, .cells .own 0 [.int .i64 28, .int .i64 (t.pos : Int), .str t.text, .int .i64 0, .int .i64 0, .int .i64 0, .int .i64 0, .int .u64 0, .nilSlice]⟩ := by simp (disch := first | omega | (simp only [hN] <;> omega) | fail) only [go_sem, simprocAttr, hf2.old]
  have q02 : h2.get h.n = some ⟨0, .cells .own 0 zN⟩ := by simp (disch := first | omega | (simp only [hN] <;> omega) | fail) only [go_sem, simprocAttr, hf2.old, q0]
  have hp3 : RInv h2 r E all (nx + 1) 0 q := hp2.fr' (q' := h1.n) ⟨by omega, fun b hb _ => by simp (disch := first | omega | (simp only [hN] <;> omega) | fail) only [go_sem, simprocAttr, hf2.old]⟩ hp2.hi
  have hff : ∀ b', b' < h.n → b' ≠ r → h2.get b' = h.get b' := fun b' hb' hr' => by simp (disch := first | omega | (simp only [hN] <;> omega) | fail) only [go_sem, simprocAttr, hf2.old, hf]
  have hlt2 := hp2.hi
  clear hf2 hf hp2 q0
  by_cases hi : isT [[91]] (all.drop (nx + 1)) = true
  · rw [if_pos hi] at hz hQ
    rw [hi] at hs
    simp only [inP, hi, if_true] at hz hQ
    simp (disch := first | omega | (simp only [hN] <;> omega) | fail) only [go_sem, simprocAttr, hs, q1]
    generalize hH : AHeap.upd _ _ _ _ = H
    have hHn : H.n = h2.n := by rw [← hH]; simp (disch := first | omega | (simp only [hN] <;> omega) | fail) only [go_sem, simprocAttr]
    have hH1 : H.get (h1.n + 1) = some ⟨2, .cells .own 0 [.int .i64 29, .int .i64 (t.pos : Int), .str t.text, .int .i64 0, .int .i64 0, .int .i64 0, .int .i64 0, .int .u64 0, .nilSlice]⟩ := by rw [← hH]; simp (disch := first | omega | (simp only [hN] <;> omega) | fail) only [go_sem, simprocAttr]
    have hHo : ∀ b', b' ≠ h1.n + 1 → H.get b' = h2.get b' := fun b' hb' => by rw [← hH]; simp (disch := first | omega | (simp only [hN] <;> omega) | fail) only [go_sem, simprocAttr]
    clear hH
    have hp4 : RInv H r E all (nx + 1) 0 q := hp3.fr' (q' := h1.n + 1) ⟨by omega, fun b hb hne => hHo b hne⟩ (by omega)
    clear q1 hp3
    refine level_tok (by simp) hlv hp4 ?_
    unfold LevQ
    rw [if_pos rfl, if_pos hi]
    by_cases h16 : lv = 16
    · rw [if_pos h16] at hQ ⊢
      intro h3 hf3 hp5
      have hn3 := hf3.n; try simp only [hN] at hn3
      simp (disch := first | omega | (simp only [hN] <;> omega) | fail) only [go_sem, simprocAttr]
      refine rexpr_bad hp5 (by decide) ?_
      intro h4 hf4
      have hn4 := hf4.n; try simp only [hN] at hn4
      have hp6 := hp5.fr hf4
      have r1 : h4.get (h1.n + 1) = _ := (hf4.all (by omega)).trans ((hf3.old _ (by omega) (by omega)).trans hH1)
      have r0 : h4.get h.n = _ := (hf4.all (by omega)).trans ((hf3.old _ (by omega) (by omega)).trans ((hHo _ (by omega)).trans q02))
      simp (disch := first | omega | (simp only [hN] <;> omega) | fail) only [go_sem, simprocAttr, r1]
      refine eat_tok (by simp) ((hp6.fr (h' := h4.alloc (.cells .own 9 zN)) ⟨by first | omega | (simp only [hN]; omega), fun b hb hne => by (try simp only [hN] at hb hne); simp (disch := first | omega | (simp only [hN] <;> omega) | fail) only [go_sem, simprocAttr]⟩).fr' (q' := h1.n + 1) (Fr.upd _ _ _) (by omega)) ?_
      unfold EatQ
      rw [if_neg (by decide)]
      intro h5 hf5 hp7
      have hn5 := hf5.n; try simp only [hN] at hn5
      simp (disch := first | omega | (simp only [hN] <;> omega) | fail) only [go_sem, simprocAttr, hf5.old, r0]
      exact hQ _ (.mk 29 t.pos t.text 0 0 0 0 0 []) _ _ (by decide) ⟨by first | omega | (simp only [hN]; omega), fun b hb hne => by (try simp only [hN] at hb hne); simp (disch := first | omega | (simp only [hN] <;> omega) | fail) only [go_sem, simprocAttr, hf5.old, hf4.old, hf3.old, hHo, hff]⟩ (hp7.fr' (q' := h.n) (Fr.upd _ _ _) hlt) rfl rfl
    · rw [if_neg h16] at hQ hz ⊢
      intro h3 hf3 hp5
      have hn3 := hf3.n; try simp only [hN] at hn3
      have el : ((lv : Int) + 1) = ((lv + 1 : Nat) : Int) := by omega
      simp (disch := first | omega | (simp only [hN] <;> omega) | fail) only [go_sem, simprocAttr, el]
      have htl2 : (all.drop (nx + 1)).tail = all.drop (nx + 1 + 1) := List.tail_drop
      rw [htl2] at hz hQ
      have hz2 : x (lv + 1) (all.drop (nx + 1 + 1)) ≠ .error (0, 0) := by intro e; rw [e] at hz; exact hz rfl
      refine hx (lv := lv + 1) (by omega) hp5 hz2 (RQ.all hz2 (hxe.ne hz2) ?_)
      intro h4 m kv nx4 e4 p4 hf4 hp6 k1 k2 hc
      have hn4 := hf4.n; try simp only [hN] at hn4
      have r1 : h4.get (h1.n + 1) = _ := (hf4.old _ (by omega) (by omega)).trans ((hf3.old _ (by omega) (by omega)).trans hH1)
      have r0 : h4.get h.n = _ := (hf4.old _ (by omega) (by omega)).trans ((hf3.old _ (by omega) (by omega)).trans ((hHo _ (by omega)).trans q02))
      simp (disch := first | omega | (simp only [hN] <;> omega) | fail) only [go_sem, simprocAttr, r1, k1, k2]
      refine eat_tok (by simp) ((hp6.fr (h' := h4.alloc (.cells .own 9 (ndC m kv))) ⟨by first | omega | (simp only [hN]; omega), fun b hb hne => by (try simp only [hN] at hb hne); simp (disch := first | omega | (simp only [hN] <;> omega) | fail) only [go_sem, simprocAttr]⟩).fr' (q' := h1.n + 1) (Fr.upd _ _ _) (by omega)) ?_
      unfold EatQ
      rcases hc with ⟨rfl, rfl, hk, hxx⟩ | ⟨he, hxx⟩
      · rw [hxx] at hQ hz
        simp only at hQ hz
        rw [if_pos rfl]
        by_cases hb : isT [[93]] (all.drop nx4) = true
        · rw [if_pos hb] at hQ ⊢
          intro h5 hf5 hp7
          have hn5 := hf5.n; try simp only [hN] at hn5
          simp (disch := first | omega | (simp only [hN] <;> omega) | fail) only [go_sem, simprocAttr, hf5.old, r0]
          refine hQ _ _ (nx4 + 1) List.tail_drop.symm ⟨by first | omega | (simp only [hN]; omega), fun b hb hne => by (try simp only [hN] at hb hne); simp (disch := first | omega | (simp only [hN] <;> omega) | fail) only [go_sem, simprocAttr, hf5.old, hf4.old, hf3.old, hHo, hff]⟩ (hp7.fr' (q' := h.n) (Fr.upd _ _ _) hlt) ?_
          exact KidsR.one (ver := 0) (kv := kv) (hk.keep (by omega) (by simp (disch := first | omega | (simp only [hN] <;> omega) | fail) only [go_sem, simprocAttr]; omega) fun b hb1 hb2 => by simp (disch := first | omega | (simp only [hN] <;> omega) | fail) only [go_sem, simprocAttr, hf5.old]) (by omega) (by simp (disch := first | omega | (simp only [hN] <;> omega) | fail) only [go_sem, simprocAttr]; omega) (by simp (disch := first | omega | (simp only [hN] <;> omega) | fail) only [go_sem, simprocAttr, hf5.old])
        · rw [if_neg hb] at hQ ⊢
          intro h5 hf5 hp7
          have hn5 := hf5.n; try simp only [hN] at hn5
          simp (disch := first | omega | (simp only [hN] <;> omega) | fail) only [go_sem, simprocAttr, hf5.old, r0]
          exact hQ _ (.mk 29 t.pos t.text 0 0 0 0 0 []) _ _ (by decide) ⟨by first | omega | (simp only [hN]; omega), fun b hb hne => by (try simp only [hN] at hb hne); simp (disch := first | omega | (simp only [hN] <;> omega) | fail) only [go_sem, simprocAttr, hf5.old, hf4.old, hf3.old, hHo, hff]⟩ (hp7.fr' (q' := h.n) (Fr.upd _ _ _) hlt) rfl rfl
      · rw [hxx] at hQ
        rw [if_neg he]
        intro h5 hf5 hp7
        have hn5 := hf5.n; try simp only [hN] at hn5
        simp (disch := first | omega | (simp only [hN] <;> omega) | fail) only [go_sem, simprocAttr, hf5.old, r0]
        exact hQ _ (.mk 29 t.pos t.text 0 0 0 0 0 []) _ _ he ⟨by first | omega | (simp only [hN]; omega), fun b hb hne => by (try simp only [hN] at hb hne); simp (disch := first | omega | (simp only [hN] <;> omega) | fail) only [go_sem, simprocAttr, hf5.old, hf4.old, hf3.old, hHo, hff]⟩ (hp7.fr' (q' := h.n) (Fr.upd _ _ _) hlt) rfl rfl
  · rw [if_neg hi] at hz hQ
    have hi' : isT [[91]] (all.drop (nx + 1)) = false := by simpa using hi
    rw [hi'] at hs
    simp (disch := first | omega | (simp only [hN] <;> omega) | fail) only [go_sem, simprocAttr, hs, q1, q02]
    exact hQ _ .nilSlice (nx + 1) rfl ⟨by first | omega | (simp only [hN]; omega), fun b hb hne => by (try simp only [hN] at hb hne); simp (disch := first | omega | (simp only [hN] <;> omega) | fail) only [go_sem, simprocAttr, hff]⟩ (hp3.fr' (q' := h.n) (Fr.upd _ _ _) hlt) .nil
end Go.Ev
/- The document's reader of trees: operands; expressions. -/
namespace Go.Ev
open Go
set_option maxRecDepth 100000
set_option maxHeartbeats 4000000

theorem isT_kind {ws : List Bs} {E : Nat} {ts : List Tok} (h : isT ws ts = true) : ((hdT E ts).kind = 2 ∨ (hdT E ts).kind = 5) ∧ ws.contains (hdT E ts).text = true := by
  cases ts with
  | nil => simp [isT] at h
  | cons t ts =>
    simp only [isT, Bool.and_eq_true, Bool.or_eq_true, decide_eq_true_eq] at h
    exact h
theorem isT_two {a b : Bs} {ts : List Tok} : isT [a, b] ts = (isT [a] ts || isT [b] ts) := by
  cases ts with
  | nil => rfl
  | cons t ts =>
    simp only [isT, List.contains_cons, List.contains_nil, Bool.or_false]
    cases (decide (t.kind = 2) || decide (t.kind = 5)) <;> simp
theorem RInv.le {h h' : AHeap} {r E nx e q : Nat} {all : List Tok} (p : RInv h r E all nx e q) (hn : h.n ≤ h'.n) (f : ∀ b, b ≤ r → h'.get b = h.get b) : RInv h' r E all nx e q := by
  obtain ⟨ver, v, h1, h2, h3, h4⟩ := p.st
  have := p.hi
  refine ⟨by omega, p.nxl, p.small, ver, v, by rw [f r (Nat.le_refl _)]; exact h1, h2, h3, h4.imp id ?_⟩
  rintro ⟨b, vb, c, ex, g1, g2, g3⟩
  exact ⟨b, vb, c, ex, g1, g2, by rw [f b (by omega)]; exact g3⟩
theorem RInv.step2 {h h' : AHeap} {r E nx e q nx' e' q' ver ver' : Nat} {v : AV} {all : List Tok} (p : RInv h r E all nx e q) (hn0 : h.n ≤ h'.n) (f : ∀ b, b < r → h'.get b = h.get b) (hn : nx' ≤ all.length) (h0 : h.get r = some ⟨ver, .cells .own 0 [v, .int .i64 (E : Int), .int .i64 (nx : Int), .int .i64 (e : Int), .int .i64 (q : Int)]⟩) (h1 : h'.get r = some ⟨ver', .cells .own 0 [v, .int .i64 (E : Int), .int .i64 (nx' : Int), .int .i64 (e' : Int), .int .i64 (q' : Int)]⟩) : RInv h' r E all nx' e' q' := by
  obtain ⟨ver2, v2, g1, g2, g3, g4⟩ := p.st
  rw [h0] at g1
  cases g1
  have := p.hi
  refine ⟨by omega, hn, p.small, ver', v, h1, g2, g3, g4.imp id ?_⟩
  rintro ⟨b, vb, c, ex, g1, g2, g3⟩
  exact ⟨b, vb, c, ex, g1, g2, by rw [f b (by omega)]; exact g3⟩
theorem runary_bad {h : AHeap} {r E nx e q : Nat} {all : List Tok} {lv : Int} (hp : RInv h r E all nx e q) (he : e ≠ 0) {Q : QR} (hQ : ∀ h', Fr h.n h h' → Q (.ret (.agg (ndC (.mk 0 (hdT E (all.drop nx)).pos [] 0 0 0 0 0 []) .nilSlice))) h') : WF F 69 [.ptr r 0, .int .i64 lv] h Q := by
  refine WF.code F69 rfl ?_
  have hlt := hp.hi
  simp (disch := first | omega | (simp only [hN] <;> omega) | fail) only [go_sem, simprocAttr]
  refine place_tok (hp.fr ⟨by first | omega | (simp only [hN]; omega), fun b hb hne => by (try simp only [hN] at hb hne); simp (disch := first | omega | (simp only [hN] <;> omega) | fail) only [go_sem, simprocAttr]⟩) ?_
  obtain ⟨ver, v, h1, h2, h3, h4⟩ := hp.st
  have e0 : ((e : Int) != 0) = true := by simp; omega
  simp (disch := first | omega | (simp only [hN] <;> omega) | fail) only [go_sem, simprocAttr, h1, e0]
  exact hQ _ ⟨by first | omega | (simp only [hN]; omega), fun b hb hne => by (try simp only [hN] at hb hne); simp (disch := first | omega | (simp only [hN] <;> omega) | fail) only [go_sem, simprocAttr]⟩
theorem runary_tok {E : Nat} {u x : PT} (hu : RSpec 69 [] E u) (hue : ErrP u) (hx : RSpec 40 [.int .i64 1] E x) (hxe : ErrP x) : RSpec 69 [] E (fun lv ts => if isT [[45], [33]] ts then (if lv = 16 then .error (3, (hdT E ts).pos) else match u (lv + 1) ts.tail with
        | .error e => .error e
        | .ok (k, ts') => .ok (.mk 30 (hdT E ts).pos (hdT E ts).text 0 0 0 0 0 [k], ts')) else primP E x lv ts) := by
  intro h r lv nx q all Q hlv hp hz hQ
  simp only at hz hQ
  refine WF.code F69 rfl ?_
  have hlt := hp.hi
  simp (disch := first | omega | (simp only [hN] <;> omega) | fail) only [go_sem, simprocAttr, List.cons_append, List.nil_append]
  refine place_tok (hp.fr ⟨by first | omega | (simp only [hN]; omega), fun b hb hne => by (try simp only [hN] at hb hne); simp (disch := first | omega | (simp only [hN] <;> omega) | fail) only [go_sem, simprocAttr]⟩) ?_
  obtain ⟨ver, v, h1, h2, h3, h4⟩ := hp.st
  have e0 : ((0 : Int) != 0) = false := rfl
  simp (disch := first | omega | (simp only [hN] <;> omega) | fail) only [go_sem, simprocAttr, h1, e0, Int.natCast_zero]
  generalize hH : AHeap.upd _ _ _ _ = H
  have hHn : H.n = h.n + 2 := by rw [← hH]; simp (disch := first | omega | (simp only [hN] <;> omega) | fail) only [go_sem, simprocAttr]
  have hH0 : H.get h.n = some ⟨0, .cells .own 0 zN⟩ := by rw [← hH]; simp (disch := first | omega | (simp only [hN] <;> omega) | fail) only [go_sem, simprocAttr]
  have hH1 : H.get (h.n + 1) = some ⟨1, .cells .own 0 [.int .i64 0, .int .i64 ((hdT E (all.drop nx)).pos : Int), .str [], .int .i64 0, .int .i64 0, .int .i64 0, .int .i64 0, .int .u64 0, .nilSlice]⟩ := by rw [← hH]; simp (disch := first | omega | (simp only [hN] <;> omega) | fail) only [go_sem, simprocAttr]
  have hHo : ∀ b', b' < h.n → H.get b' = h.get b' := fun b' hb' => by rw [← hH]; simp (disch := first | omega | (simp only [hN] <;> omega) | fail) only [go_sem, simprocAttr]
  clear hH h1 h2 h3 h4
  have hpH : RInv H r E all nx 0 q := hp.fr ⟨by omega, fun b hb _ => hHo b hb⟩
  refine sees_tok hpH ?_
  intro h1 hf1
  have hn1 := hf1.n; try simp only [hN] at hn1
  have hp1 := hpH.fr hf1
  have q0 := (hf1.all (b := h.n) (by omega)).trans hH0
  have q1 := (hf1.all (b := h.n + 1) (by omega)).trans hH1
  have hfo : ∀ b', b' < h.n → h1.get b' = h.get b' := fun b' hb' => by rw [hf1.all (by omega), hHo b' hb']
  clear hf1 hpH hH0 hH1 hHo
  have s1 := seesT_is (w := [45]) (by simp) (ts := all.drop nx)
  have s2 := seesT_is (w := [33]) (by simp) (ts := all.drop nx)
  have s3 := seesT_is (w := [105, 110, 116]) (by simp) (ts := all.drop nx)
  have s4 := seesT_is (w := [102, 108, 111, 97, 116]) (by simp) (ts := all.drop nx)
  have s5 := seesT_is (w := [116, 114, 117, 101]) (by simp) (ts := all.drop nx)
  have s6 := seesT_is (w := [102, 97, 108, 115, 101]) (by simp) (ts := all.drop nx)
  have htx : ∀ ws, isT ws (all.drop nx) = true → seesT 0 (all.drop nx) = (hdT E (all.drop nx)).text := fun ws hw => by
    rw [isR_text hw, ← hdT_text (E := E) (isT_ne hw)]
  have htl : (all.drop nx).tail = all.drop (nx + 1) := List.tail_drop
  have el : ((lv : Int) + 1) = ((lv + 1 : Nat) : Int) := by omega
  rw [htl] at hz hQ
  generalize hS : seesT 0 (all.drop nx) = S at s1 s2 s3 s4 s5 s6 htx
  simp (disch := first | omega | (simp only [hN] <;> omega) | fail) only [go_sem, simprocAttr]
  by_cases hm : isT [[45], [33]] (all.drop nx) = true
  · rw [if_pos hm] at hz hQ
    have hSt := htx _ hm
    have hw : isT [S] (all.drop nx) = true := by
      obtain ⟨k1, k2⟩ := isT_kind (E := E) hm
      cases hd : all.drop nx with
      | nil => rw [hd] at hm; simp [isT] at hm
      | cons t ts =>
        rw [hd] at hSt k1
        simp only [isT, hdT] at k1 hSt ⊢
        rw [hSt]
        simpa using k1
    have hm2 : (S == [45] || S == [33]) = true := by rw [s1, s2, ← isT_two]; exact hm
    have hS0 : S ≠ [] := by rintro rfl; cases hm2
    cases c1 : (S == [45])
    · cases c2 : (S == [33])
      · rw [c1, c2] at hm2; cases hm2
      · simp (disch := first | omega | (simp only [hN] <;> omega) | fail) only [go_sem, simprocAttr, c1, c2]
        refine level_tok hS0 hlv hp1 ?_
        unfold LevQ
        rw [if_pos rfl, if_pos hw]
        by_cases h16 : lv = 16
        · rw [if_pos h16] at hQ ⊢
          intro h2 hf2 hp2
          have hn2 := hf2.n; try simp only [hN] at hn2
          have r1 := (hf2.old (h.n + 1) (by omega) (by omega)).trans q1
          have r0 := (hf2.old h.n (by omega) (by omega)).trans q0
          simp (disch := first | omega | (simp only [hN] <;> omega) | fail) only [go_sem, simprocAttr, r1]
          refine runary_bad (hp2.fr' (q' := h.n + 1) (Fr.trans (Fr.upd _ _ _) (Fr.upd _ _ _)) (by omega)) (by decide) ?_
          intro h3 hf3
          have hn3 := hf3.n; try simp only [hN] at hn3
          simp (disch := first | omega | (simp only [hN] <;> omega) | fail) only [go_sem, simprocAttr, hf3.old, r0]
          refine hQ _ (.mk 30 (hdT E (all.drop nx)).pos S 0 0 0 0 0 []) _ nx (by decide) ⟨by first | omega | (simp only [hN]; omega), fun b hb hne => by (try simp only [hN] at hb hne); simp (disch := first | omega | (simp only [hN] <;> omega) | fail) only [go_sem, simprocAttr, hf3.old, hf2.old, hfo]⟩ ?_ rfl rfl
          exact hp2.le (by simp (disch := first | omega | (simp only [hN] <;> omega) | fail) only [go_sem, simprocAttr]; omega) fun b hb => by simp (disch := first | omega | (simp only [hN] <;> omega) | fail) only [go_sem, simprocAttr, hf3.old]
        · rw [if_neg h16] at hQ hz ⊢
          intro h2 hf2 hp2
          have hn2 := hf2.n; try simp only [hN] at hn2
          have r1 := (hf2.old (h.n + 1) (by omega) (by omega)).trans q1
          have r0 := (hf2.old h.n (by omega) (by omega)).trans q0
          simp (disch := first | omega | (simp only [hN] <;> omega) | fail) only [go_sem, simprocAttr, r1, el]
          have hz2 : u (lv + 1) (all.drop (nx + 1)) ≠ .error (0, 0) := by intro e; rw [e] at hz; exact hz rfl
          refine hu (lv := lv + 1) (by omega) (hp2.fr' (q' := h.n + 1) (Fr.trans (Fr.upd _ _ _) (Fr.upd _ _ _)) (by omega)) hz2 (RQ.all hz2 (hue.ne hz2) ?_)
          intro h3 m kv nx3 e3 p3 hf3 hp3 k1 k2 hc
          have hn3 := hf3.n; try simp only [hN] at hn3
          rw [← hSt] at hQ
          simp (disch := first | omega | (simp only [hN] <;> omega) | fail) only [go_sem, simprocAttr, hf3.old, r0, k1, k2]
          refine hQ.use (nx' := nx3) (e := e3) (p := p3) (n := .mk 30 (hdT E (all.drop nx)).pos S 0 0 0 0 0 [m]) ⟨by first | omega | (simp only [hN]; omega), fun b hb hne => by (try simp only [hN] at hb hne); simp (disch := first | omega | (simp only [hN] <;> omega) | fail) only [go_sem, simprocAttr, hf3.old, hf2.old, hfo]⟩ (hp3.le (by simp (disch := first | omega | (simp only [hN] <;> omega) | fail) only [go_sem, simprocAttr]; omega) fun b hb => by simp (disch := first | omega | (simp only [hN] <;> omega) | fail) only [go_sem, simprocAttr]) rfl rfl (hc.imp (fun g => ⟨g.1, g.2.1, ?_, ?_⟩) (fun g => ⟨g.1, ?_⟩))
          · exact KidsR.one (ver := 0) (kv := kv) (g.2.2.1.keep (by simp (disch := first | omega | (simp only [hN] <;> omega) | fail) only [go_sem, simprocAttr]; omega) (by simp (disch := first | omega | (simp only [hN] <;> omega) | fail) only [go_sem, simprocAttr]; omega) fun b hb1 hb2 => by simp only [AHeap.upd_n] at hb1; simp (disch := first | omega | (simp only [hN] <;> omega) | fail) only [go_sem, simprocAttr]) (by omega) (by simp (disch := first | omega | (simp only [hN] <;> omega) | fail) only [go_sem, simprocAttr]; omega) (by simp (disch := first | omega | (simp only [hN] <;> omega) | fail) only [go_sem, simprocAttr])
          · rw [g.2.2.2]
          · rw [g.2]
    · simp (disch := first | omega | (simp only [hN] <;> omega) | fail) only [go_sem, simprocAttr, c1]
      refine level_tok hS0 hlv hp1 ?_
      unfold LevQ
      rw [if_pos rfl, if_pos hw]
      by_cases h16 : lv = 16
      · rw [if_pos h16] at hQ ⊢
        intro h2 hf2 hp2
        have hn2 := hf2.n; try simp only [hN] at hn2
        have r1 := (hf2.old (h.n + 1) (by omega) (by omega)).trans q1
        have r0 := (hf2.old h.n (by omega) (by omega)).trans q0
        simp (disch := first | omega | (simp only [hN] <;> omega) | fail) only [go_sem, simprocAttr, r1]
        refine runary_bad (hp2.fr' (q' := h.n + 1) (Fr.trans (Fr.upd _ _ _) (Fr.upd _ _ _)) (by omega)) (by decide) ?_
        intro h3 hf3
        have hn3 := hf3.n; try simp only [hN] at hn3
        simp (disch := first | omega | (simp only [hN] <;> omega) | fail) only [go_sem, simprocAttr, hf3.old, r0]
        refine hQ _ (.mk 30 (hdT E (all.drop nx)).pos S 0 0 0 0 0 []) _ nx (by decide) ⟨by first | omega | (simp only [hN]; omega), fun b hb hne => by (try simp only [hN] at hb hne); simp (disch := first | omega | (simp only [hN] <;> omega) | fail) only [go_sem, simprocAttr, hf3.old, hf2.old, hfo]⟩ ?_ rfl rfl
        exact hp2.le (by simp (disch := first | omega | (simp only [hN] <;> omega) | fail) only [go_sem, simprocAttr]; omega) fun b hb => by simp (disch := first | omega | (simp only [hN] <;> omega) | fail) only [go_sem, simprocAttr, hf3.old]
      · rw [if_neg h16] at hQ hz ⊢
        intro h2 hf2 hp2
        have hn2 := hf2.n; try simp only [hN] at hn2
        have r1 := (hf2.old (h.n + 1) (by omega) (by omega)).trans q1
        have r0 := (hf2.old h.n (by omega) (by omega)).trans q0
        simp (disch := first | omega | (simp only [hN] <;> omega) | fail) only [go_sem, simprocAttr, r1, el]
        have hz2 : u (lv + 1) (all.drop (nx + 1)) ≠ .error (0, 0) := by intro e; rw [e] at hz; exact hz rfl
        refine hu (lv := lv + 1) (by omega) (hp2.fr' (q' := h.n + 1) (Fr.trans (Fr.upd _ _ _) (Fr.upd _ _ _)) (by omega)) hz2 (RQ.all hz2 (hue.ne hz2) ?_)
        intro h3 m kv nx3 e3 p3 hf3 hp3 k1 k2 hc
        have hn3 := hf3.n; try simp only [hN] at hn3
        rw [← hSt] at hQ
        simp (disch := first | omega | (simp only [hN] <;> omega) | fail) only [go_sem, simprocAttr, hf3.old, r0, k1, k2]
        refine hQ.use (nx' := nx3) (e := e3) (p := p3) (n := .mk 30 (hdT E (all.drop nx)).pos S 0 0 0 0 0 [m]) ⟨by first | omega | (simp only [hN]; omega), fun b hb hne => by (try simp only [hN] at hb hne); simp (disch := first | omega | (simp only [hN] <;> omega) | fail) only [go_sem, simprocAttr, hf3.old, hf2.old, hfo]⟩ (hp3.le (by simp (disch := first | omega | (simp only [hN] <;> omega) | fail) only [go_sem, simprocAttr]; omega) fun b hb => by simp (disch := first | omega | (simp only [hN] <;> omega) | fail) only [go_sem, simprocAttr]) rfl rfl (hc.imp (fun g => ⟨g.1, g.2.1, ?_, ?_⟩) (fun g => ⟨g.1, ?_⟩))
        · exact KidsR.one (ver := 0) (kv := kv) (g.2.2.1.keep (by simp (disch := first | omega | (simp only [hN] <;> omega) | fail) only [go_sem, simprocAttr]; omega) (by simp (disch := first | omega | (simp only [hN] <;> omega) | fail) only [go_sem, simprocAttr]; omega) fun b hb1 hb2 => by simp only [AHeap.upd_n] at hb1; simp (disch := first | omega | (simp only [hN] <;> omega) | fail) only [go_sem, simprocAttr]) (by omega) (by simp (disch := first | omega | (simp only [hN] <;> omega) | fail) only [go_sem, simprocAttr]; omega) (by simp (disch := first | omega | (simp only [hN] <;> omega) | fail) only [go_sem, simprocAttr])
        · rw [g.2.2.2]
        · rw [g.2]
  · rw [if_neg hm] at hz hQ
    have hm2 : (S == [45] || S == [33]) = false := by rw [s1, s2, ← isT_two]; simpa using hm
    rw [Bool.or_eq_false_iff] at hm2
    obtain ⟨c1, c2⟩ := hm2
    simp (disch := first | omega | (simp only [hN] <;> omega) | fail) only [go_sem, simprocAttr, c1, c2]
    cases c3 : (S == [105, 110, 116])
    · cases c4 : (S == [102, 108, 111, 97, 116])
      · simp (disch := first | omega | (simp only [hN] <;> omega) | fail) only [go_sem, simprocAttr, c3, c4]
        cases c5 : (S == [116, 114, 117, 101])
        case true =>
          have hi := (s5.symm.trans c5)
          obtain ⟨kk, _⟩ := isT_kind (E := E) hi
          have hSt := htx _ hi
          unfold primP at hz hQ
          rw [if_neg (by omega), if_neg (by omega), if_neg (by omega)] at hQ
          simp only [(s5.symm.trans c5), if_true, if_false, Bool.false_eq_true, htl] at hQ
          have hnx := drop_ne (isT_ne hi)
          obtain ⟨ver, v, i1, i2, i3, i4⟩ := hp1.st
          have hsm := hp.small
          simp (disch := first | omega | (simp only [hN] <;> omega) | fail) only [go_sem, simprocAttr, c5, i1, i3.1, i3.2, q1, q0]
          refine hQ _ .nilSlice (nx + 1) rfl ⟨by first | omega | (simp only [hN]; omega), fun b hb hne => by (try simp only [hN] at hb hne); simp (disch := first | omega | (simp only [hN] <;> omega) | fail) only [go_sem, simprocAttr, hfo]⟩ (hp1.step2 (ver' := ver + 1) (by simp (disch := first | omega | (simp only [hN] <;> omega) | fail) only [go_sem, simprocAttr]; omega) (fun b hb => by simp (disch := first | omega | (simp only [hN] <;> omega) | fail) only [go_sem, simprocAttr]) hnx i1 (by (first | (simp (disch := first | omega | (simp only [hN] <;> omega) | fail) only [go_sem, simprocAttr]; done) | (simp (disch := first | omega | (simp only [hN] <;> omega) | fail) only [go_sem, simprocAttr]; rfl)))) .nil
        cases c6 : (S == [102, 97, 108, 115, 101])
        case true =>
          have hi := (s6.symm.trans c6)
          obtain ⟨kk, _⟩ := isT_kind (E := E) hi
          have hSt := htx _ hi
          unfold primP at hz hQ
          rw [if_neg (by omega), if_neg (by omega), if_neg (by omega)] at hQ
          simp only [(s5.symm.trans c5), (s6.symm.trans c6), if_true, if_false, Bool.false_eq_true, htl] at hQ
          have hnx := drop_ne (isT_ne hi)
          obtain ⟨ver, v, i1, i2, i3, i4⟩ := hp1.st
          have hsm := hp.small
          simp (disch := first | omega | (simp only [hN] <;> omega) | fail) only [go_sem, simprocAttr, c5, c6, i1, i3.1, i3.2, q1, q0]
          refine hQ _ .nilSlice (nx + 1) rfl ⟨by first | omega | (simp only [hN]; omega), fun b hb hne => by (try simp only [hN] at hb hne); simp (disch := first | omega | (simp only [hN] <;> omega) | fail) only [go_sem, simprocAttr, hfo]⟩ (hp1.step2 (ver' := ver + 1) (by simp (disch := first | omega | (simp only [hN] <;> omega) | fail) only [go_sem, simprocAttr]; omega) (fun b hb => by simp (disch := first | omega | (simp only [hN] <;> omega) | fail) only [go_sem, simprocAttr]) hnx i1 (by (first | (simp (disch := first | omega | (simp only [hN] <;> omega) | fail) only [go_sem, simprocAttr]; done) | (simp (disch := first | omega | (simp only [hN] <;> omega) | fail) only [go_sem, simprocAttr]; rfl)))) .nil
        have n3 : isT [[105, 110, 116], [102, 108, 111, 97, 116]] (all.drop nx) = false := by rw [isT_two, ← s3, ← s4, c3, c4]; rfl
        have n5 : isT [[116, 114, 117, 101]] (all.drop nx) = false := by rw [← s5, c5]
        have n6 : isT [[102, 97, 108, 115, 101]] (all.drop nx) = false := by rw [← s6, c6]
        simp (disch := first | omega | (simp only [hN] <;> omega) | fail) only [go_sem, simprocAttr, c5, c6]
        refine kind_tok hp1 ?_
        simp only [kindT, if_true]
        by_cases k3 : (hdT E (all.drop nx)).kind = 3
        · have kN := k3
          have ek : (((hdT E (all.drop nx)).kind : Int) == 3) = true := by simp; omega
          simp (disch := first | omega | (simp only [hN] <;> omega) | fail) only [go_sem, simprocAttr, ek]
          have hpr : primP E x lv (all.drop nx) = .ok (.mk 25 (hdT E (all.drop nx)).pos [] 0 (hdT E (all.drop nx)).n 0 0 0 [], all.drop (nx + 1)) := by
            unfold primP
            rw [if_pos kN]
            rw [htl]
          rw [hpr] at hQ
          refine token_tok (k := 3) (by decide) (show RInv h1 r E all nx 0 q from hp1) ?_
          unfold TokQ'
          rw [if_pos rfl, if_pos kN]
          intro h2 hf2 hp2
          have hn2 := hf2.n; try simp only [hN] at hn2
          have r1 := (hf2.old (h.n + 1) (by omega) (by omega)).trans q1
          have r0 := (hf2.old h.n (by omega) (by omega)).trans q0
          simp (disch := first | omega | (simp only [hN] <;> omega) | fail) only [go_sem, simprocAttr, tokAV, r1, r0]
          exact hQ _ .nilSlice (nx + 1) rfl ⟨by first | omega | (simp only [hN]; omega), fun b hb hne => by (try simp only [hN] at hb hne); simp (disch := first | omega | (simp only [hN] <;> omega) | fail) only [go_sem, simprocAttr, hf2.old, hfo]⟩ (hp2.le (by simp (disch := first | omega | (simp only [hN] <;> omega) | fail) only [go_sem, simprocAttr]; omega) fun b hb => by simp (disch := first | omega | (simp only [hN] <;> omega) | fail) only [go_sem, simprocAttr]) .nil
        have ek3 : (((hdT E (all.drop nx)).kind : Int) == 3) = false := by simp; omega
        simp (disch := first | omega | (simp only [hN] <;> omega) | fail) only [go_sem, simprocAttr, ek3]
        refine kind_tok hp1 ?_
        simp only [kindT, if_true]
        by_cases k4 : (hdT E (all.drop nx)).kind = 4
        · have kN := k4
          have ek : (((hdT E (all.drop nx)).kind : Int) == 4) = true := by simp; omega
          simp (disch := first | omega | (simp only [hN] <;> omega) | fail) only [go_sem, simprocAttr, ek]
          have hpr : primP E x lv (all.drop nx) = .ok (.mk 26 (hdT E (all.drop nx)).pos [] 0 0 0 0 (hdT E (all.drop nx)).bits [], all.drop (nx + 1)) := by
            unfold primP
            rw [if_neg k3, if_pos kN]
            rw [htl]
          rw [hpr] at hQ
          refine token_tok (k := 4) (by decide) (show RInv h1 r E all nx 0 q from hp1) ?_
          unfold TokQ'
          rw [if_pos rfl, if_pos kN]
          intro h2 hf2 hp2
          have hn2 := hf2.n; try simp only [hN] at hn2
          have r1 := (hf2.old (h.n + 1) (by omega) (by omega)).trans q1
          have r0 := (hf2.old h.n (by omega) (by omega)).trans q0
          simp (disch := first | omega | (simp only [hN] <;> omega) | fail) only [go_sem, simprocAttr, tokAV, r1, r0]
          exact hQ _ .nilSlice (nx + 1) rfl ⟨by first | omega | (simp only [hN]; omega), fun b hb hne => by (try simp only [hN] at hb hne); simp (disch := first | omega | (simp only [hN] <;> omega) | fail) only [go_sem, simprocAttr, hf2.old, hfo]⟩ (hp2.le (by simp (disch := first | omega | (simp only [hN] <;> omega) | fail) only [go_sem, simprocAttr]; omega) fun b hb => by simp (disch := first | omega | (simp only [hN] <;> omega) | fail) only [go_sem, simprocAttr]) .nil
        have ek4 : (((hdT E (all.drop nx)).kind : Int) == 4) = false := by simp; omega
        simp (disch := first | omega | (simp only [hN] <;> omega) | fail) only [go_sem, simprocAttr, ek4]
        refine kind_tok hp1 ?_
        simp only [kindT, if_true]
        by_cases k1' : (hdT E (all.drop nx)).kind = 1
        · have ek : (((hdT E (all.drop nx)).kind : Int) == 1) = true := by simp; omega
          have hpr : primP E x lv (all.drop nx) = nameP E x lv (all.drop nx) := by
            unfold primP
            rw [if_neg k3, if_neg k4, if_pos k1']
          rw [hpr] at hz hQ
          simp (disch := first | omega | (simp only [hN] <;> omega) | fail) only [go_sem, simprocAttr, ek]
          refine rtarget_tok hx hxe hlv hp1 k1' hz (RQ.all hz ((nameP_errP hxe).ne hz) ?_)
          intro h2 m kv nx2 e2 p2 hf2 hp2 f1 f2 hc
          have hn2 := hf2.n; try simp only [hN] at hn2
          have r0 := (hf2.old h.n (by omega) (by omega)).trans q0
          simp (disch := first | omega | (simp only [hN] <;> omega) | fail) only [go_sem, simprocAttr, r0, f1, f2]
          refine hQ.use (nx' := nx2) (e := e2) (p := p2) ⟨by first | omega | (simp only [hN]; omega), fun b hb hne => by (try simp only [hN] at hb hne); simp (disch := first | omega | (simp only [hN] <;> omega) | fail) only [go_sem, simprocAttr, hf2.old, hfo]⟩ (hp2.le (by simp (disch := first | omega | (simp only [hN] <;> omega) | fail) only [go_sem, simprocAttr]; omega) fun b hb => by simp (disch := first | omega | (simp only [hN] <;> omega) | fail) only [go_sem, simprocAttr]) f1 f2 (hc.imp (fun g => ⟨g.1, g.2.1, ?_, g.2.2.2⟩) id)
          exact g.2.2.1.keep (by omega) (by simp (disch := first | omega | (simp only [hN] <;> omega) | fail) only [go_sem, simprocAttr]; omega) fun b hb1 hb2 => by simp (disch := first | omega | (simp only [hN] <;> omega) | fail) only [go_sem, simprocAttr]
        have ek1 : (((hdT E (all.drop nx)).kind : Int) == 1) = false := by simp; omega
        have hpr : primP E x lv (all.drop nx) = inP E [40] [41] x lv (all.drop nx) := by
          unfold primP
          rw [if_neg k3, if_neg k4, if_neg k1', n5, n6, n3]
          rfl
        rw [hpr] at hz hQ
        simp (disch := first | omega | (simp only [hN] <;> omega) | fail) only [go_sem, simprocAttr, ek1]
        refine level_tok (by simp) hlv hp1 ?_
        unfold LevQ
        rw [if_pos rfl]
        unfold inP at hz hQ
        by_cases hb : isT [[40]] (all.drop nx) = true
        · rw [if_pos hb] at hz hQ ⊢
          by_cases h16 : lv = 16
          · rw [if_pos h16] at hQ ⊢
            intro h3 hf3 hp3
            have hn3 := hf3.n; try simp only [hN] at hn3
            have r03 := (hf3.old h.n (by omega) (by omega)).trans q0
            simp (disch := first | omega | (simp only [hN] <;> omega) | fail) only [go_sem, simprocAttr]
            refine rexpr_bad hp3 (by decide) ?_
            intro h4 hf4
            have hn4 := hf4.n; try simp only [hN] at hn4
            have r04 := (hf4.all (b := h.n) (by omega)).trans r03
            simp (disch := first | omega | (simp only [hN] <;> omega) | fail) only [go_sem, simprocAttr]
            refine eat_tok (by simp) (show RInv _ r E all nx _ _ from (hp3.fr hf4).le (by simp (disch := first | omega | (simp only [hN] <;> omega) | fail) only [go_sem, simprocAttr]; omega) fun b hb => by simp (disch := first | omega | (simp only [hN] <;> omega) | fail) only [go_sem, simprocAttr]) ?_
            unfold EatQ
            rw [if_neg (by decide)]
            intro h5 hf5 hp5
            have hn5 := hf5.n; try simp only [hN] at hn5
            simp (disch := first | omega | (simp only [hN] <;> omega) | fail) only [go_sem, simprocAttr, hf5.old, r04]
            exact hQ _ (.mk 0 0 [] 0 0 0 0 0 []) _ _ (by decide) ⟨by first | omega | (simp only [hN]; omega), fun b hb hne => by (try simp only [hN] at hb hne); simp (disch := first | omega | (simp only [hN] <;> omega) | fail) only [go_sem, simprocAttr, hf5.old, hf4.old, hf3.old, hfo]⟩ (hp5.le (by simp (disch := first | omega | (simp only [hN] <;> omega) | fail) only [go_sem, simprocAttr]; omega) fun b hb => by simp (disch := first | omega | (simp only [hN] <;> omega) | fail) only [go_sem, simprocAttr]) rfl rfl
          · rw [if_neg h16] at hz hQ ⊢
            rw [htl] at hz hQ
            have hz2 : x (lv + 1) (all.drop (nx + 1)) ≠ .error (0, 0) := by intro e; rw [e] at hz; exact hz rfl
            intro h3 hf3 hp3
            have hn3 := hf3.n; try simp only [hN] at hn3
            have r03 := (hf3.old h.n (by omega) (by omega)).trans q0
            simp (disch := first | omega | (simp only [hN] <;> omega) | fail) only [go_sem, simprocAttr, el]
            refine hx (lv := lv + 1) (by omega) hp3 hz2 (RQ.all hz2 (hxe.ne hz2) ?_)
            intro h4 m kv nx4 e4 p4 hf4 hp4 f1 f2 hc
            have hn4 := hf4.n; try simp only [hN] at hn4
            have r04 := (hf4.old h.n (by omega) (by omega)).trans r03
            simp (disch := first | omega | (simp only [hN] <;> omega) | fail) only [go_sem, simprocAttr, f1, f2]
            refine eat_tok (by simp) (show RInv _ r E all nx4 e4 p4 from hp4.le (by simp (disch := first | omega | (simp only [hN] <;> omega) | fail) only [go_sem, simprocAttr]; omega) fun b hb => by simp (disch := first | omega | (simp only [hN] <;> omega) | fail) only [go_sem, simprocAttr]) ?_
            unfold EatQ
            rcases hc with ⟨rfl, rfl, hk, hxx⟩ | ⟨he, hxx⟩
            · rw [hxx] at hQ hz
              simp only at hQ hz
              rw [if_pos rfl]
              by_cases hb : isT [[41]] (all.drop nx4) = true
              · rw [if_pos hb] at hQ ⊢
                intro h5 hf5 hp5
                have hn5 := hf5.n; try simp only [hN] at hn5
                simp (disch := first | omega | (simp only [hN] <;> omega) | fail) only [go_sem, simprocAttr, hf5.old, r04, f1, f2]
                refine hQ _ _ (nx4 + 1) List.tail_drop.symm ⟨by first | omega | (simp only [hN]; omega), fun b hb hne => by (try simp only [hN] at hb hne); simp (disch := first | omega | (simp only [hN] <;> omega) | fail) only [go_sem, simprocAttr, hf5.old, hf4.old, hf3.old, hfo]⟩ (hp5.le (by simp (disch := first | omega | (simp only [hN] <;> omega) | fail) only [go_sem, simprocAttr]; omega) fun b hb => by simp (disch := first | omega | (simp only [hN] <;> omega) | fail) only [go_sem, simprocAttr]) ?_
                exact hk.keep (by omega) (by simp (disch := first | omega | (simp only [hN] <;> omega) | fail) only [go_sem, simprocAttr]; omega) fun b hb1 hb2 => by simp (disch := first | omega | (simp only [hN] <;> omega) | fail) only [go_sem, simprocAttr, hf5.old]
              · rw [if_neg hb] at hQ ⊢
                intro h5 hf5 hp5
                have hn5 := hf5.n; try simp only [hN] at hn5
                simp (disch := first | omega | (simp only [hN] <;> omega) | fail) only [go_sem, simprocAttr, hf5.old, r04, f1, f2]
                exact hQ _ m _ _ (by decide) ⟨by first | omega | (simp only [hN]; omega), fun b hb hne => by (try simp only [hN] at hb hne); simp (disch := first | omega | (simp only [hN] <;> omega) | fail) only [go_sem, simprocAttr, hf5.old, hf4.old, hf3.old, hfo]⟩ (hp5.le (by simp (disch := first | omega | (simp only [hN] <;> omega) | fail) only [go_sem, simprocAttr]; omega) fun b hb => by simp (disch := first | omega | (simp only [hN] <;> omega) | fail) only [go_sem, simprocAttr]) f1 f2
            · rw [hxx] at hQ
              rw [if_neg he]
              intro h5 hf5 hp5
              have hn5 := hf5.n; try simp only [hN] at hn5
              simp (disch := first | omega | (simp only [hN] <;> omega) | fail) only [go_sem, simprocAttr, hf5.old, r04, f1, f2]
              exact hQ _ m _ _ he ⟨by first | omega | (simp only [hN]; omega), fun b hb hne => by (try simp only [hN] at hb hne); simp (disch := first | omega | (simp only [hN] <;> omega) | fail) only [go_sem, simprocAttr, hf5.old, hf4.old, hf3.old, hfo]⟩ (hp5.le (by simp (disch := first | omega | (simp only [hN] <;> omega) | fail) only [go_sem, simprocAttr]; omega) fun b hb => by simp (disch := first | omega | (simp only [hN] <;> omega) | fail) only [go_sem, simprocAttr]) f1 f2
        · rw [if_neg hb] at hz hQ ⊢
          intro h3 hf3 hp3
          have hn3 := hf3.n; try simp only [hN] at hn3
          have r03 := (hf3.old h.n (by omega) (by omega)).trans q0
          simp (disch := first | omega | (simp only [hN] <;> omega) | fail) only [go_sem, simprocAttr]
          refine rexpr_bad hp3 (by decide) ?_
          intro h4 hf4
          have hn4 := hf4.n; try simp only [hN] at hn4
          have r04 := (hf4.all (b := h.n) (by omega)).trans r03
          simp (disch := first | omega | (simp only [hN] <;> omega) | fail) only [go_sem, simprocAttr]
          refine eat_tok (by simp) (show RInv _ r E all nx _ _ from (hp3.fr hf4).le (by simp (disch := first | omega | (simp only [hN] <;> omega) | fail) only [go_sem, simprocAttr]; omega) fun b hb => by simp (disch := first | omega | (simp only [hN] <;> omega) | fail) only [go_sem, simprocAttr]) ?_
          unfold EatQ
          rw [if_neg (by decide)]
          intro h5 hf5 hp5
          have hn5 := hf5.n; try simp only [hN] at hn5
          simp (disch := first | omega | (simp only [hN] <;> omega) | fail) only [go_sem, simprocAttr, hf5.old, r04]
          exact hQ _ (.mk 0 0 [] 0 0 0 0 0 []) _ _ (by decide) ⟨by first | omega | (simp only [hN]; omega), fun b hb hne => by (try simp only [hN] at hb hne); simp (disch := first | omega | (simp only [hN] <;> omega) | fail) only [go_sem, simprocAttr, hf5.old, hf4.old, hf3.old, hfo]⟩ (hp5.le (by simp (disch := first | omega | (simp only [hN] <;> omega) | fail) only [go_sem, simprocAttr]; omega) fun b hb => by simp (disch := first | omega | (simp only [hN] <;> omega) | fail) only [go_sem, simprocAttr]) rfl rfl
      · simp (disch := first | omega | (simp only [hN] <;> omega) | fail) only [go_sem, simprocAttr, c3, c4]
        have hi : isT [[105, 110, 116], [102, 108, 111, 97, 116]] (all.drop nx) = true := by rw [isT_two, ← s3, ← s4]; simp [c4]
        obtain ⟨kk, _⟩ := isT_kind (E := E) hi
        have hSt := htx _ hi
        have n5 : isT [[116, 114, 117, 101]] (all.drop nx) = false := by rw [← s5]; simp [beq_iff_eq.1 c4]
        have n6 : isT [[102, 97, 108, 115, 101]] (all.drop nx) = false := by rw [← s6]; simp [beq_iff_eq.1 c4]
        unfold primP at hz hQ
        rw [if_neg (by omega), if_neg (by omega), if_neg (by omega), n5, n6, hi] at hz hQ
        simp only [Bool.false_eq_true, if_false, if_true, htl] at hz hQ
        have hnx := drop_ne (isT_ne hi)
        obtain ⟨ver, v, i1, i2, i3, i4⟩ := hp1.st
        have hsm := hp.small
        rw [← hSt] at hQ
        simp (disch := first | omega | (simp only [hN] <;> omega) | fail) only [go_sem, simprocAttr, c3, c4, i1, i3.1, i3.2, q1]
        generalize hI : AHeap.upd (AHeap.upd _ _ _ _) (h.n + 1) _ _ = I
        have hIn : I.n = h1.n := by rw [← hI]; simp (disch := first | omega | (simp only [hN] <;> omega) | fail) only [go_sem, simprocAttr]
        have hI1 : I.get (h.n + 1) = some ⟨3, .cells .own 0 [.int .i64 30, .int .i64 ((hdT E (all.drop nx)).pos : Int), .str S, .int .i64 0, .int .i64 0, .int .i64 0, .int .i64 0, .int .u64 0, .nilSlice]⟩ := by rw [← hI]; simp (disch := first | omega | (simp only [hN] <;> omega) | fail) only [go_sem, simprocAttr]
        have hI0 : I.get h.n = some ⟨0, .cells .own 0 zN⟩ := by rw [← hI]; simp (disch := first | omega | (simp only [hN] <;> omega) | fail) only [go_sem, simprocAttr, q0]
        have hIf : ∀ b', b' < h.n → b' ≠ r → I.get b' = h.get b' := fun b' hb1 hb2 => by rw [← hI]; simp (disch := first | omega | (simp only [hN] <;> omega) | fail) only [go_sem, simprocAttr, hfo]
        have hpI : RInv I r E all (nx + 1) 0 q := hp1.step2 (ver' := ver + 1) (by omega) (fun b hb => by rw [← hI]; simp (disch := first | omega | (simp only [hN] <;> omega) | fail) only [go_sem, simprocAttr]) hnx i1 (by rw [← hI]; (first | (simp (disch := first | omega | (simp only [hN] <;> omega) | fail) only [go_sem, simprocAttr]; done) | (simp (disch := first | omega | (simp only [hN] <;> omega) | fail) only [go_sem, simprocAttr]; rfl)))
        clear hI i1 i2 i3 i4 hp1
        refine level_tok (by simp) hlv hpI ?_
        unfold LevQ
        rw [if_pos rfl]
        unfold inP at hz hQ
        by_cases hb : isT [[40]] (all.drop (nx + 1)) = true
        · rw [if_pos hb] at hz hQ ⊢
          by_cases h16 : lv = 16
          · rw [if_pos h16] at hQ ⊢
            intro h3 hf3 hp3
            have hn3 := hf3.n; try simp only [hN] at hn3
            have r13 := (hf3.old (h.n + 1) (by omega) (by omega)).trans hI1
            have r03 := (hf3.old h.n (by omega) (by omega)).trans hI0
            have hfo3 : ∀ b', b' < h.n → b' ≠ r → h3.get b' = h.get b' := fun b' hb1 hb2 => by rw [hf3.old b' (by omega) hb2, hIf b' hb1 hb2]
            simp (disch := first | omega | (simp only [hN] <;> omega) | fail) only [go_sem, simprocAttr]
            refine rexpr_bad hp3 (by decide) ?_
            intro h4 hf4
            have hn4 := hf4.n; try simp only [hN] at hn4
            have r14 := (hf4.all (b := h.n + 1) (by omega)).trans r13
            have r04 := (hf4.all (b := h.n) (by omega)).trans r03
            simp (disch := first | omega | (simp only [hN] <;> omega) | fail) only [go_sem, simprocAttr, r14]
            refine eat_tok (by simp) (show RInv _ r E all (nx + 1) _ _ from (hp3.fr hf4).le (by simp (disch := first | omega | (simp only [hN] <;> omega) | fail) only [go_sem, simprocAttr]; omega) fun b hb => by simp (disch := first | omega | (simp only [hN] <;> omega) | fail) only [go_sem, simprocAttr]) ?_
            unfold EatQ
            rw [if_neg (by decide)]
            intro h5 hf5 hp5
            have hn5 := hf5.n; try simp only [hN] at hn5
            simp (disch := first | omega | (simp only [hN] <;> omega) | fail) only [go_sem, simprocAttr, hf5.old, r04]
            exact hQ _ (.mk 30 (hdT E (all.drop nx)).pos S 0 0 0 0 0 []) _ _ (by decide) ⟨by first | omega | (simp only [hN]; omega), fun b hb hne => by (try simp only [hN] at hb hne); simp (disch := first | omega | (simp only [hN] <;> omega) | fail) only [go_sem, simprocAttr, hf5.old, hf4.old, hfo3]⟩ (hp5.le (by simp (disch := first | omega | (simp only [hN] <;> omega) | fail) only [go_sem, simprocAttr]; omega) fun b hb => by simp (disch := first | omega | (simp only [hN] <;> omega) | fail) only [go_sem, simprocAttr]) rfl rfl
          · rw [if_neg h16] at hz hQ ⊢
            have htl2 : (all.drop (nx + 1)).tail = all.drop (nx + 1 + 1) := List.tail_drop
            rw [htl2] at hz hQ
            have hz2 : x (lv + 1) (all.drop (nx + 1 + 1)) ≠ .error (0, 0) := by intro e; rw [e] at hz; exact hz rfl
            intro h3 hf3 hp3
            have hn3 := hf3.n; try simp only [hN] at hn3
            have r13 := (hf3.old (h.n + 1) (by omega) (by omega)).trans hI1
            have r03 := (hf3.old h.n (by omega) (by omega)).trans hI0
            have hfo3 : ∀ b', b' < h.n → b' ≠ r → h3.get b' = h.get b' := fun b' hb1 hb2 => by rw [hf3.old b' (by omega) hb2, hIf b' hb1 hb2]
            simp (disch := first | omega | (simp only [hN] <;> omega) | fail) only [go_sem, simprocAttr, el]
            refine hx (lv := lv + 1) (by omega) hp3 hz2 (RQ.all hz2 (hxe.ne hz2) ?_)
            intro h4 m kv nx4 e4 p4 hf4 hp4 k1 k2 hc
            have hn4 := hf4.n; try simp only [hN] at hn4
            have r14 := (hf4.old (h.n + 1) (by omega) (by omega)).trans r13
            have r04 := (hf4.old h.n (by omega) (by omega)).trans r03
            simp (disch := first | omega | (simp only [hN] <;> omega) | fail) only [go_sem, simprocAttr, r14, k1, k2]
            refine eat_tok (by simp) (show RInv _ r E all nx4 e4 p4 from hp4.le (by simp (disch := first | omega | (simp only [hN] <;> omega) | fail) only [go_sem, simprocAttr]; omega) fun b hb => by simp (disch := first | omega | (simp only [hN] <;> omega) | fail) only [go_sem, simprocAttr]) ?_
            unfold EatQ
            rcases hc with ⟨rfl, rfl, hk, hxx⟩ | ⟨he, hxx⟩
            · rw [hxx] at hQ hz
              simp only at hQ hz
              rw [if_pos rfl]
              by_cases hb : isT [[41]] (all.drop nx4) = true
              · rw [if_pos hb] at hQ ⊢
                intro h5 hf5 hp5
                have hn5 := hf5.n; try simp only [hN] at hn5
                simp (disch := first | omega | (simp only [hN] <;> omega) | fail) only [go_sem, simprocAttr, hf5.old, r04]
                refine hQ _ _ (nx4 + 1) List.tail_drop.symm ⟨by first | omega | (simp only [hN]; omega), fun b hb hne => by (try simp only [hN] at hb hne); simp (disch := first | omega | (simp only [hN] <;> omega) | fail) only [go_sem, simprocAttr, hf5.old, hf4.old, hfo3]⟩ (hp5.le (by simp (disch := first | omega | (simp only [hN] <;> omega) | fail) only [go_sem, simprocAttr]; omega) fun b hb => by simp (disch := first | omega | (simp only [hN] <;> omega) | fail) only [go_sem, simprocAttr]) ?_
                exact KidsR.one (ver := 0) (kv := kv) (hk.keep (by omega) (by simp (disch := first | omega | (simp only [hN] <;> omega) | fail) only [go_sem, simprocAttr]; omega) fun b hb1 hb2 => by simp (disch := first | omega | (simp only [hN] <;> omega) | fail) only [go_sem, simprocAttr, hf5.old]) (by omega) (by simp (disch := first | omega | (simp only [hN] <;> omega) | fail) only [go_sem, simprocAttr]; omega) (by simp (disch := first | omega | (simp only [hN] <;> omega) | fail) only [go_sem, simprocAttr, hf5.old])
              · rw [if_neg hb] at hQ ⊢
                intro h5 hf5 hp5
                have hn5 := hf5.n; try simp only [hN] at hn5
                simp (disch := first | omega | (simp only [hN] <;> omega) | fail) only [go_sem, simprocAttr, hf5.old, r04]
                exact hQ _ (.mk 30 (hdT E (all.drop nx)).pos S 0 0 0 0 0 []) _ _ (by decide) ⟨by first | omega | (simp only [hN]; omega), fun b hb hne => by (try simp only [hN] at hb hne); simp (disch := first | omega | (simp only [hN] <;> omega) | fail) only [go_sem, simprocAttr, hf5.old, hf4.old, hfo3]⟩ (hp5.le (by simp (disch := first | omega | (simp only [hN] <;> omega) | fail) only [go_sem, simprocAttr]; omega) fun b hb => by simp (disch := first | omega | (simp only [hN] <;> omega) | fail) only [go_sem, simprocAttr]) rfl rfl
            · rw [hxx] at hQ
              rw [if_neg he]
              intro h5 hf5 hp5
              have hn5 := hf5.n; try simp only [hN] at hn5
              simp (disch := first | omega | (simp only [hN] <;> omega) | fail) only [go_sem, simprocAttr, hf5.old, r04]
              exact hQ _ (.mk 30 (hdT E (all.drop nx)).pos S 0 0 0 0 0 []) _ _ he ⟨by first | omega | (simp only [hN]; omega), fun b hb hne => by (try simp only [hN] at hb hne); simp (disch := first | omega | (simp only [hN] <;> omega) | fail) only [go_sem, simprocAttr, hf5.old, hf4.old, hfo3]⟩ (hp5.le (by simp (disch := first | omega | (simp only [hN] <;> omega) | fail) only [go_sem, simprocAttr]; omega) fun b hb => by simp (disch := first | omega | (simp only [hN] <;> omega) | fail) only [go_sem, simprocAttr]) rfl rfl
        · rw [if_neg hb] at hz hQ ⊢
          intro h3 hf3 hp3
          have hn3 := hf3.n; try simp only [hN] at hn3
          have r13 := (hf3.old (h.n + 1) (by omega) (by omega)).trans hI1
          have r03 := (hf3.old h.n (by omega) (by omega)).trans hI0
          have hfo3 : ∀ b', b' < h.n → b' ≠ r → h3.get b' = h.get b' := fun b' hb1 hb2 => by rw [hf3.old b' (by omega) hb2, hIf b' hb1 hb2]
          simp (disch := first | omega | (simp only [hN] <;> omega) | fail) only [go_sem, simprocAttr]
          refine rexpr_bad hp3 (by decide) ?_
          intro h4 hf4
          have hn4 := hf4.n; try simp only [hN] at hn4
          have r14 := (hf4.all (b := h.n + 1) (by omega)).trans r13
          have r04 := (hf4.all (b := h.n) (by omega)).trans r03
          simp (disch := first | omega | (simp only [hN] <;> omega) | fail) only [go_sem, simprocAttr, r14]
          refine eat_tok (by simp) (show RInv _ r E all (nx + 1) _ _ from (hp3.fr hf4).le (by simp (disch := first | omega | (simp only [hN] <;> omega) | fail) only [go_sem, simprocAttr]; omega) fun b hb => by simp (disch := first | omega | (simp only [hN] <;> omega) | fail) only [go_sem, simprocAttr]) ?_
          unfold EatQ
          rw [if_neg (by decide)]
          intro h5 hf5 hp5
          have hn5 := hf5.n; try simp only [hN] at hn5
          simp (disch := first | omega | (simp only [hN] <;> omega) | fail) only [go_sem, simprocAttr, hf5.old, r04]
          exact hQ _ (.mk 30 (hdT E (all.drop nx)).pos S 0 0 0 0 0 []) _ _ (by decide) ⟨by first | omega | (simp only [hN]; omega), fun b hb hne => by (try simp only [hN] at hb hne); simp (disch := first | omega | (simp only [hN] <;> omega) | fail) only [go_sem, simprocAttr, hf5.old, hf4.old, hfo3]⟩ (hp5.le (by simp (disch := first | omega | (simp only [hN] <;> omega) | fail) only [go_sem, simprocAttr]; omega) fun b hb => by simp (disch := first | omega | (simp only [hN] <;> omega) | fail) only [go_sem, simprocAttr]) rfl rfl
    · simp (disch := first | omega | (simp only [hN] <;> omega) | fail) only [go_sem, simprocAttr, c3]
      have hi : isT [[105, 110, 116], [102, 108, 111, 97, 116]] (all.drop nx) = true := by rw [isT_two, ← s3, ← s4]; simp [c3]
      obtain ⟨kk, _⟩ := isT_kind (E := E) hi
      have hSt := htx _ hi
      have n5 : isT [[116, 114, 117, 101]] (all.drop nx) = false := by rw [← s5]; simp [beq_iff_eq.1 c3]
      have n6 : isT [[102, 97, 108, 115, 101]] (all.drop nx) = false := by rw [← s6]; simp [beq_iff_eq.1 c3]
      unfold primP at hz hQ
      rw [if_neg (by omega), if_neg (by omega), if_neg (by omega), n5, n6, hi] at hz hQ
      simp only [Bool.false_eq_true, if_false, if_true, htl] at hz hQ
      have hnx := drop_ne (isT_ne hi)
      obtain ⟨ver, v, i1, i2, i3, i4⟩ := hp1.st
      have hsm := hp.small
      rw [← hSt] at hQ
      simp (disch := first | omega | (simp only [hN] <;> omega) | fail) only [go_sem, simprocAttr, c3, i1, i3.1, i3.2, q1]
      generalize hI : AHeap.upd (AHeap.upd _ _ _ _) (h.n + 1) _ _ = I
      have hIn : I.n = h1.n := by rw [← hI]; simp (disch := first | omega | (simp only [hN] <;> omega) | fail) only [go_sem, simprocAttr]
      have hI1 : I.get (h.n + 1) = some ⟨3, .cells .own 0 [.int .i64 30, .int .i64 ((hdT E (all.drop nx)).pos : Int), .str S, .int .i64 0, .int .i64 0, .int .i64 0, .int .i64 0, .int .u64 0, .nilSlice]⟩ := by rw [← hI]; simp (disch := first | omega | (simp only [hN] <;> omega) | fail) only [go_sem, simprocAttr]
      have hI0 : I.get h.n = some ⟨0, .cells .own 0 zN⟩ := by rw [← hI]; simp (disch := first | omega | (simp only [hN] <;> omega) | fail) only [go_sem, simprocAttr, q0]
      have hIf : ∀ b', b' < h.n → b' ≠ r → I.get b' = h.get b' := fun b' hb1 hb2 => by rw [← hI]; simp (disch := first | omega | (simp only [hN] <;> omega) | fail) only [go_sem, simprocAttr, hfo]
      have hpI : RInv I r E all (nx + 1) 0 q := hp1.step2 (ver' := ver + 1) (by omega) (fun b hb => by rw [← hI]; simp (disch := first | omega | (simp only [hN] <;> omega) | fail) only [go_sem, simprocAttr]) hnx i1 (by rw [← hI]; (first | (simp (disch := first | omega | (simp only [hN] <;> omega) | fail) only [go_sem, simprocAttr]; done) | (simp (disch := first | omega | (simp only [hN] <;> omega) | fail) only [go_sem, simprocAttr]; rfl)))
      clear hI i1 i2 i3 i4 hp1
      refine level_tok (by simp) hlv hpI ?_
      unfold LevQ
      rw [if_pos rfl]
      unfold inP at hz hQ
      by_cases hb : isT [[40]] (all.drop (nx + 1)) = true
      · rw [if_pos hb] at hz hQ ⊢
        by_cases h16 : lv = 16
        · rw [if_pos h16] at hQ ⊢
          intro h3 hf3 hp3
          have hn3 := hf3.n; try simp only [hN] at hn3
          have r13 := (hf3.old (h.n + 1) (by omega) (by omega)).trans hI1
          have r03 := (hf3.old h.n (by omega) (by omega)).trans hI0
          have hfo3 : ∀ b', b' < h.n → b' ≠ r → h3.get b' = h.get b' := fun b' hb1 hb2 => by rw [hf3.old b' (by omega) hb2, hIf b' hb1 hb2]
          simp (disch := first | omega | (simp only [hN] <;> omega) | fail) only [go_sem, simprocAttr]
          refine rexpr_bad hp3 (by decide) ?_
          intro h4 hf4
          have hn4 := hf4.n; try simp only [hN] at hn4
          have r14 := (hf4.all (b := h.n + 1) (by omega)).trans r13
          have r04 := (hf4.all (b := h.n) (by omega)).trans r03
          simp (disch := first | omega | (simp only [hN] <;> omega) | fail) only [go_sem, simprocAttr, r14]
          refine eat_tok (by simp) (show RInv _ r E all (nx + 1) _ _ from (hp3.fr hf4).le (by simp (disch := first | omega | (simp only [hN] <;> omega) | fail) only [go_sem, simprocAttr]; omega) fun b hb => by simp (disch := first | omega | (simp only [hN] <;> omega) | fail) only [go_sem, simprocAttr]) ?_
          unfold EatQ
          rw [if_neg (by decide)]
          intro h5 hf5 hp5
          have hn5 := hf5.n; try simp only [hN] at hn5
          simp (disch := first | omega | (simp only [hN] <;> omega) | fail) only [go_sem, simprocAttr, hf5.old, r04]
          exact hQ _ (.mk 30 (hdT E (all.drop nx)).pos S 0 0 0 0 0 []) _ _ (by decide) ⟨by first | omega | (simp only [hN]; omega), fun b hb hne => by (try simp only [hN] at hb hne); simp (disch := first | omega | (simp only [hN] <;> omega) | fail) only [go_sem, simprocAttr, hf5.old, hf4.old, hfo3]⟩ (hp5.le (by simp (disch := first | omega | (simp only [hN] <;> omega) | fail) only [go_sem, simprocAttr]; omega) fun b hb => by simp (disch := first | omega | (simp only [hN] <;> omega) | fail) only [go_sem, simprocAttr]) rfl rfl
        · rw [if_neg h16] at hz hQ ⊢
          have htl2 : (all.drop (nx + 1)).tail = all.drop (nx + 1 + 1) := List.tail_drop
          rw [htl2] at hz hQ
          have hz2 : x (lv + 1) (all.drop (nx + 1 + 1)) ≠ .error (0, 0) := by intro e; rw [e] at hz; exact hz rfl
          intro h3 hf3 hp3
          have hn3 := hf3.n; try simp only [hN] at hn3
          have r13 := (hf3.old (h.n + 1) (by omega) (by omega)).trans hI1
          have r03 := (hf3.old h.n (by omega) (by omega)).trans hI0
          have hfo3 : ∀ b', b' < h.n → b' ≠ r → h3.get b' = h.get b' := fun b' hb1 hb2 => by rw [hf3.old b' (by omega) hb2, hIf b' hb1 hb2]
          simp (disch := first | omega | (simp only [hN] <;> omega) | fail) only [go_sem, simprocAttr, el]
          refine hx (lv := lv + 1) (by omega) hp3 hz2 (RQ.all hz2 (hxe.ne hz2) ?_)
          intro h4 m kv nx4 e4 p4 hf4 hp4 k1 k2 hc
          have hn4 := hf4.n; try simp only [hN] at hn4
          have r14 := (hf4.old (h.n + 1) (by omega) (by omega)).trans r13
          have r04 := (hf4.old h.n (by omega) (by omega)).trans r03
          simp (disch := first | omega | (simp only [hN] <;> omega) | fail) only [go_sem, simprocAttr, r14, k1, k2]
          refine eat_tok (by simp) (show RInv _ r E all nx4 e4 p4 from hp4.le (by simp (disch := first | omega | (simp only [hN] <;> omega) | fail) only [go_sem, simprocAttr]; omega) fun b hb => by simp (disch := first | omega | (simp only [hN] <;> omega) | fail) only [go_sem, simprocAttr]) ?_
          unfold EatQ
          rcases hc with ⟨rfl, rfl, hk, hxx⟩ | ⟨he, hxx⟩
          · rw [hxx] at hQ hz
            simp only at hQ hz
            rw [if_pos rfl]
            by_cases hb : isT [[41]] (all.drop nx4) = true
            · rw [if_pos hb] at hQ ⊢
              intro h5 hf5 hp5
              have hn5 := hf5.n; try simp only [hN] at hn5
              simp (disch := first | omega | (simp only [hN] <;> omega) | fail) only [go_sem, simprocAttr, hf5.old, r04]
              refine hQ _ _ (nx4 + 1) List.tail_drop.symm ⟨by first | omega | (simp only [hN]; omega), fun b hb hne => by (try simp only [hN] at hb hne); simp (disch := first | omega | (simp only [hN] <;> omega) | fail) only [go_sem, simprocAttr, hf5.old, hf4.old, hfo3]⟩ (hp5.le (by simp (disch := first | omega | (simp only [hN] <;> omega) | fail) only [go_sem, simprocAttr]; omega) fun b hb => by simp (disch := first | omega | (simp only [hN] <;> omega) | fail) only [go_sem, simprocAttr]) ?_
              exact KidsR.one (ver := 0) (kv := kv) (hk.keep (by omega) (by simp (disch := first | omega | (simp only [hN] <;> omega) | fail) only [go_sem, simprocAttr]; omega) fun b hb1 hb2 => by simp (disch := first | omega | (simp only [hN] <;> omega) | fail) only [go_sem, simprocAttr, hf5.old]) (by omega) (by simp (disch := first | omega | (simp only [hN] <;> omega) | fail) only [go_sem, simprocAttr]; omega) (by simp (disch := first | omega | (simp only [hN] <;> omega) | fail) only [go_sem, simprocAttr, hf5.old])
            · rw [if_neg hb] at hQ ⊢
              intro h5 hf5 hp5
              have hn5 := hf5.n; try simp only [hN] at hn5
              simp (disch := first | omega | (simp only [hN] <;> omega) | fail) only [go_sem, simprocAttr, hf5.old, r04]
              exact hQ _ (.mk 30 (hdT E (all.drop nx)).pos S 0 0 0 0 0 []) _ _ (by decide) ⟨by first | omega | (simp only [hN]; omega), fun b hb hne => by (try simp only [hN] at hb hne); simp (disch := first | omega | (simp only [hN] <;> omega) | fail) only [go_sem, simprocAttr, hf5.old, hf4.old, hfo3]⟩ (hp5.le (by simp (disch := first | omega | (simp only [hN] <;> omega) | fail) only [go_sem, simprocAttr]; omega) fun b hb => by simp (disch := first | omega | (simp only [hN] <;> omega) | fail) only [go_sem, simprocAttr]) rfl rfl
          · rw [hxx] at hQ
            rw [if_neg he]
            intro h5 hf5 hp5
            have hn5 := hf5.n; try simp only [hN] at hn5
            simp (disch := first | omega | (simp only [hN] <;> omega) | fail) only [go_sem, simprocAttr, hf5.old, r04]
            exact hQ _ (.mk 30 (hdT E (all.drop nx)).pos S 0 0 0 0 0 []) _ _ he ⟨by first | omega | (simp only [hN]; omega), fun b hb hne => by (try simp only [hN] at hb hne); simp (disch := first | omega | (simp only [hN] <;> omega) | fail) only [go_sem, simprocAttr, hf5.old, hf4.old, hfo3]⟩ (hp5.le (by simp (disch := first | omega | (simp only [hN] <;> omega) | fail) only [go_sem, simprocAttr]; omega) fun b hb => by simp (disch := first | omega | (simp only [hN] <;> omega) | fail) only [go_sem, simprocAttr]) rfl rfl
      · rw [if_neg hb] at hz hQ ⊢
        intro h3 hf3 hp3
        have hn3 := hf3.n; try simp only [hN] at hn3
        have r13 := (hf3.old (h.n + 1) (by omega) (by omega)).trans hI1
        have r03 := (hf3.old h.n (by omega) (by omega)).trans hI0
        have hfo3 : ∀ b', b' < h.n → b' ≠ r → h3.get b' = h.get b' := fun b' hb1 hb2 => by rw [hf3.old b' (by omega) hb2, hIf b' hb1 hb2]
        simp (disch := first | omega | (simp only [hN] <;> omega) | fail) only [go_sem, simprocAttr]
        refine rexpr_bad hp3 (by decide) ?_
        intro h4 hf4
        have hn4 := hf4.n; try simp only [hN] at hn4
        have r14 := (hf4.all (b := h.n + 1) (by omega)).trans r13
        have r04 := (hf4.all (b := h.n) (by omega)).trans r03
        simp (disch := first | omega | (simp only [hN] <;> omega) | fail) only [go_sem, simprocAttr, r14]
        refine eat_tok (by simp) (show RInv _ r E all (nx + 1) _ _ from (hp3.fr hf4).le (by simp (disch := first | omega | (simp only [hN] <;> omega) | fail) only [go_sem, simprocAttr]; omega) fun b hb => by simp (disch := first | omega | (simp only [hN] <;> omega) | fail) only [go_sem, simprocAttr]) ?_
        unfold EatQ
        rw [if_neg (by decide)]
        intro h5 hf5 hp5
        have hn5 := hf5.n; try simp only [hN] at hn5
        simp (disch := first | omega | (simp only [hN] <;> omega) | fail) only [go_sem, simprocAttr, hf5.old, r04]
        exact hQ _ (.mk 30 (hdT E (all.drop nx)).pos S 0 0 0 0 0 []) _ _ (by decide) ⟨by first | omega | (simp only [hN]; omega), fun b hb hne => by (try simp only [hN] at hb hne); simp (disch := first | omega | (simp only [hN] <;> omega) | fail) only [go_sem, simprocAttr, hf5.old, hf4.old, hfo3]⟩ (hp5.le (by simp (disch := first | omega | (simp only [hN] <;> omega) | fail) only [go_sem, simprocAttr]; omega) fun b hb => by simp (disch := first | omega | (simp only [hN] <;> omega) | fail) only [go_sem, simprocAttr]) rfl rfl
end Go.Ev
