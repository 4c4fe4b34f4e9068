/- The tree's reader: its small functions. -/
import Derived.Test.YtccenddkgeglmaaDoorXK4
import Derived.Test.YtccenddkgeglmaaDoorPuA
import Derived.Test.YtccenddkgeglmaaDoorXK41
set_option linter.all false
set_option linter.unusedVariables false
set_option linter.unusedSimpArgs false
namespace Go.Ev
open Go
set_option maxRecDepth 100000
set_option maxHeartbeats 4000000

def ndC (n : Nd) (kv : AV) : List AV := [.int .i64 n.kind, .int .i64 n.pos, .str n.name, .int .i64 n.typ, .int .i64 n.n, .int .i64 n.size, .int .i64 n.obj, .int .u64 n.bits, kv]
mutual
/-- A node's kids in memory, in blocks of which something holds. -/
inductive KidsS (S : Nat → Prop) (h : AHeap) : List Nd → AV → Prop where
  | nil : KidsS S h [] .nilSlice
  | emp {b o c : Nat} {ex : Bool} : KidsS S h [] (.slice b o 0 c ex)
  | row {ns : List Nd} {b ver o c : Nat} {md : Md} {ex : Bool} {bs css : List AV} : ns ≠ [] → ns.length < 2 ^ 61 → S b → b < h.n → h.get b = some ⟨ver, .cells md 9 bs⟩ → Go.Ev.row bs o (ns.length * 9) = some css → RowsS S h ns css → KidsS S h ns (.slice b o ns.length c ex)
inductive RowsS (S : Nat → Prop) (h : AHeap) : List Nd → List AV → Prop where
  | nil : RowsS S h [] []
  | cons {n : Nd} {ns : List Nd} {kv : AV} {css : List AV} : KidsS S h n.kids kv → RowsS S h ns css → RowsS S h (n :: ns) (ndC n kv ++ css)
end
abbrev KidsR (lo : Nat) (h : AHeap) (ns : List Nd) (v : AV) : Prop := KidsS (fun b => lo ≤ b) h ns v
abbrev RowsR (lo : Nat) (h : AHeap) (ns : List Nd) (css : List AV) : Prop := RowsS (fun b => lo ≤ b) h ns css
theorem RowsS.len {S : Nat → Prop} {h : AHeap} : {ns : List Nd} → {css : List AV} → RowsS S h ns css → css.length = ns.length * 9
  | _, _, .nil => rfl
  | _, _, .cons _ r => by rw [List.length_append, r.len, List.length_cons]; simp [ndC]; omega
theorem row_mk {vs : List AV} {o n : Nat} (h : o + n ≤ vs.length) : row vs o n = some ((vs.drop o).take n) := by
  unfold row; rw [ble_nat, decide_eq_true h]; rfl
theorem row_inv {vs cs : List AV} {o n : Nat} (h : row vs o n = some cs) : o + n ≤ vs.length ∧ cs = (vs.drop o).take n := by
  unfold row at h
  rw [ble_nat] at h
  by_cases e : o + n ≤ vs.length
  · rw [decide_eq_true e] at h; exact ⟨e, (Option.some.inj h).symm⟩
  · rw [decide_eq_false e] at h; cases h
theorem row_len {vs cs : List AV} {o n : Nat} (h : row vs o n = some cs) : cs.length = n := by
  obtain ⟨h1, rfl⟩ := row_inv h
  rw [List.length_take, List.length_drop]; omega
theorem row_all {vs : List AV} {n : Nat} (h : vs.length = n) : row vs 0 n = some vs := by
  rw [row_mk (by omega), List.drop_zero, List.take_of_length_le (by omega)]
/-- A row of a row. -/
theorem row_sub {vs cs : List AV} {o n i k : Nat} (h : row vs o n = some cs) (hk : i + k ≤ n) : row vs (o + i) k = row cs i k := by
  have hl := row_len h
  obtain ⟨h1, rfl⟩ := row_inv h
  rw [row_mk (by omega), row_mk (by omega), List.drop_take, List.take_take, List.drop_drop, Nat.min_eq_left (by omega)]
theorem KidsS.own {S : Nat → Prop} {b ver c : Nat} {md : Md} {h : AHeap} {ex : Bool} {ns : List Nd} {css : List AV} (hne : ns ≠ []) (hl : ns.length < 2 ^ 61) (hb : S b) (hn : b < h.n) (hg : h.get b = some ⟨ver, .cells md 9 css⟩) (r : RowsS S h ns css) : KidsS S h ns (.slice b 0 ns.length c ex) :=
  .row hne hl hb hn hg (row_all r.len) r
mutual
theorem KidsS.keep9 {S S' : Nat → Prop} {h h' : AHeap} (hS : ∀ b, S b → b < h.n → S' b) (hn : h.n ≤ h'.n) (f : ∀ b ver md css, S b → b < h.n → h.get b = some ⟨ver, .cells md 9 css⟩ → h'.get b = h.get b) : {ns : List Nd} → {v : AV} → KidsS S h ns v → KidsS S' h' ns v
  | _, _, .nil => .nil
  | _, _, .emp => .emp
  | _, _, .row h1 h0 h2 h3 h4 h5 h6 => .row h1 h0 (hS _ h2 h3) (Nat.lt_of_lt_of_le h3 hn) ((f _ _ _ _ h2 h3 h4).trans h4) h5 (RowsS.keep9 hS hn f h6)
theorem RowsS.keep9 {S S' : Nat → Prop} {h h' : AHeap} (hS : ∀ b, S b → b < h.n → S' b) (hn : h.n ≤ h'.n) (f : ∀ b ver md css, S b → b < h.n → h.get b = some ⟨ver, .cells md 9 css⟩ → h'.get b = h.get b) : {ns : List Nd} → {v : List AV} → RowsS S h ns v → RowsS S' h' ns v
  | _, _, .nil => .nil
  | _, _, .cons h1 h2 => .cons (KidsS.keep9 hS hn f h1) (RowsS.keep9 hS hn f h2)
end
theorem KidsR.keep9 {lo lo' : Nat} {h h' : AHeap} (hlo : lo' ≤ lo) (hn : h.n ≤ h'.n) (f : ∀ b ver md css, lo ≤ b → b < h.n → h.get b = some ⟨ver, .cells md 9 css⟩ → h'.get b = h.get b) {ns : List Nd} {v : AV} (k : KidsR lo h ns v) : KidsR lo' h' ns v := KidsS.keep9 (fun _ hb _ => Nat.le_trans hlo hb) hn f k
theorem RowsR.keep9 {lo lo' : Nat} {h h' : AHeap} (hlo : lo' ≤ lo) (hn : h.n ≤ h'.n) (f : ∀ b ver md css, lo ≤ b → b < h.n → h.get b = some ⟨ver, .cells md 9 css⟩ → h'.get b = h.get b) {ns : List Nd} {v : List AV} (k : RowsR lo h ns v) : RowsR lo' h' ns v := RowsS.keep9 (fun _ hb _ => Nat.le_trans hlo hb) hn f k
theorem KidsR.keep {lo lo' : Nat} {h h' : AHeap} (hlo : lo' ≤ lo) (hn : h.n ≤ h'.n) (f : ∀ b, lo ≤ b → b < h.n → h'.get b = h.get b) {ns : List Nd} {v : AV} (k : KidsR lo h ns v) : KidsR lo' h' ns v := k.keep9 hlo hn fun b _ _ _ h1 h2 _ => f b h1 h2
theorem RowsR.keep {lo lo' : Nat} {h h' : AHeap} (hlo : lo' ≤ lo) (hn : h.n ≤ h'.n) (f : ∀ b, lo ≤ b → b < h.n → h'.get b = h.get b) {ns : List Nd} {v : List AV} (k : RowsR lo h ns v) : RowsR lo' h' ns v := k.keep9 hlo hn fun b _ _ _ h1 h2 _ => f b h1 h2
theorem KidsR.flat {lo : Nat} {h : AHeap} {ns : List Nd} {v : AV} (k : KidsR lo h ns v) : v.flat = true ∧ v.cells = [v] := by
  cases k <;> exact ⟨rfl, rfl⟩
theorem KidsR.fr {lo r : Nat} {h h' : AHeap} {ns : List Nd} {v : AV} (k : KidsR lo h ns v) (f : Fr r h h') (hr : r < lo ∨ h.n ≤ r) : KidsR lo h' ns v := k.keep (Nat.le_refl _) f.n fun b h1 h2 => f.old b h2 (by omega)
theorem KidsR.lo {lo lo' : Nat} {h : AHeap} {ns : List Nd} {v : AV} (k : KidsR lo h ns v) (hl : lo' ≤ lo) : KidsR lo' h ns v := k.keep hl (Nat.le_refl _) fun _ _ _ => rfl

/-- The tokens that are left, in memory. -/
def TokR (h : AHeap) (r : Nat) (ts : List Tok) (v : AV) : Prop :=
  (ts = [] ∧ v = .nilSlice) ∨ ∃ b ver k all, v = .slice b (k * 5) ts.length ts.length false ∧ b < r ∧ h.get b = some ⟨ver, .cells .own 5 (toksAV all)⟩ ∧ all.drop k = ts
structure PInv (h : AHeap) (r E : Nat) (ts : List Tok) (lv : Nat) : Prop where
  gh : GH h
  lo : 18 + 17 ≤ r
  hi : r < h.n
  lvl : lv ≤ 16
  st : ∃ ver v, h.get r = some ⟨ver, .cells .own 0 [v, .int .i64 (E : Int), .int .i64 (lv : Int)]⟩ ∧ TokR h r ts v
theorem TokR.fr {h h' : AHeap} {q r : Nat} {ts : List Tok} {v : AV} (t : TokR h r ts v) (f : Fr q h h') (hr : r < h.n) (hq : r ≤ q) : TokR h' r ts v := by
  rcases t with q | ⟨b, ver, k, all, h1, h2, h4, h5⟩
  · exact .inl q
  · exact .inr ⟨b, ver, k, all, h1, h2, by rw [f.old b (by omega) (by omega)]; exact h4, h5⟩
theorem TokR.flat {h : AHeap} {r : Nat} {ts : List Tok} {v : AV} (t : TokR h r ts v) : v.flat = true ∧ v.cells = [v] := by
  rcases t with ⟨_, rfl⟩ | ⟨b, ver, k, all, rfl, _⟩ <;> exact ⟨rfl, rfl⟩
theorem TokR.len {h : AHeap} {r : Nat} {ts : List Tok} {v : AV} (t : TokR h r ts v) : lenA v = some (ts.length : Int) := by
  rcases t with ⟨rfl, rfl⟩ | ⟨b, ver, k, all, rfl, _⟩ <;> rfl
theorem Fr.any {r q : Nat} {h h' : AHeap} (f : Fr r h h') (hr : h.n ≤ r) : Fr q h h' := ⟨f.n, fun b hb _ => f.old b hb (by omega)⟩
theorem PInv.fr' {h h' : AHeap} {q r E lv : Nat} {ts : List Tok} (p : PInv h r E ts lv) (f : Fr q h h') (hq : r < q) : PInv h' r E ts lv := by
  obtain ⟨ver, v, h1, h2⟩ := p.st
  exact ⟨f.gh (Nat.le_trans p.lo (Nat.le_of_lt hq)) p.gh, p.lo, Nat.lt_of_lt_of_le p.hi f.n, p.lvl, ver, v, by rw [f.old r p.hi (by omega)]; exact h1, h2.fr f p.hi (Nat.le_of_lt hq)⟩
theorem PInv.fr {h h' : AHeap} {r E lv : Nat} {ts : List Tok} (p : PInv h r E ts lv) (f : Fr h.n h h') : PInv h' r E ts lv := p.fr' f p.hi
theorem PInv.step {h h' : AHeap} {r E lv lv' ver : Nat} {ts ts' : List Tok} {v : AV} (p : PInv h r E ts lv) (f : Fr r h h') (hg : h'.get r = some ⟨ver, .cells .own 0 [v, .int .i64 (E : Int), .int .i64 (lv' : Int)]⟩) (t : TokR h r ts' v) (hv : lv' ≤ 16) : PInv h' r E ts' lv' :=
  ⟨f.gh p.lo p.gh, p.lo, Nat.lt_of_lt_of_le p.hi f.n, hv, ver, v, hg, t.fr f p.hi (Nat.le_refl _)⟩

def treeStop (e pos : Nat) : CRes := .pan (.iface 95 (.agg [errAV e, .int .i64 (pos : Int)]))

theorem here_tok {E r lv : Nat} {ts : List Tok} {h : AHeap} (hp : PInv h r E ts lv) {Q : QR} (hQ : ∀ h', Fr h.n h h' → Q (.ret (tokAV (hdT E ts))) h') : WF F 48 [.ptr r 0] h Q := by
  obtain ⟨ver, v, hr, ht⟩ := hp.st
  have hlt := hp.hi
  refine WF.code F48 rfl ?_
  simp (disch := first | omega | (simp only [hN] <;> omega) | fail) only [go_sem, simprocAttr, hr, ht.len]
  (first | refine kA (fun he => ?_) (fun he => ?_) | refine kB (fun he => ?_) (fun he => ?_) | refine kC (fun he => ?_) (fun he => ?_) | refine kD (fun he => ?_) (fun he => ?_) | refine kE (fun he => ?_) (fun he => ?_) | refine kF (fun he => ?_) (fun he => ?_))
  · have h0 : ts = [] := by
      have : (ts.length : Int) = 0 := by simpa using he
      exact List.length_eq_zero_iff.1 (by omega)
    subst h0
    simp (disch := first | omega | (simp only [hN] <;> omega) | fail) only [go_sem, simprocAttr, hr]
    exact hQ _ ⟨by first | omega | (simp only [hN]; omega), fun b hb hne => by (try simp only [hN] at hb hne); simp (disch := first | omega | (simp only [hN] <;> omega) | fail) only [go_sem, simprocAttr]⟩
  · rcases ht with ⟨rfl, rfl⟩ | ⟨b, ver2, k, all, rfl, hb, hc, hd⟩
    · simp at he
    cases ts with
    | nil => simp at he
    | cons t ts =>
      have hk : all[k]? = some t := by
        have := congrArg (fun l => l[0]?) hd
        simpa using this
      have hrow : row (toksAV all) (k * 5) 5 = some (tokAV t).cells := flat_row (f := fun t => (tokAV t).cells) (fun _ => rfl) hk
      have c1 : decide ((0 : Int) < ((ts.length + 1 : Nat) : Int)) = true := decide_eq_true (by omega)
      simp (disch := first | omega | (simp only [hN] <;> omega) | fail) only [go_sem, simprocAttr, hr, hc, hrow, c1, Nat.zero_mul, Nat.add_zero, tokAV]
      exact hQ _ ⟨by first | omega | (simp only [hN]; omega), fun b hb hne => by (try simp only [hN] at hb hne); simp (disch := first | omega | (simp only [hN] <;> omega) | fail) only [go_sem, simprocAttr]⟩
end Go.Ev
/- The tree's reader: is, wrong, must, take, maybe, open, close. -/
namespace Go.Ev
open Go
set_option maxRecDepth 100000
set_option maxHeartbeats 4000000

attribute [go_sem] treeStop
theorem is_tok {E r lv b ver cap : Nat} {ws : List Bs} {ex : Bool} {md : Md} {ts : List Tok} {h : AHeap} (hp : PInv h r E ts lv) (hb : h.get b = some ⟨ver, .cells md 1 (ws.map .str)⟩) (hbn : b < h.n) (hl : ws.length < 2 ^ 62) {Q : QR} (hQ : ∀ h', Fr h.n h h' → Q (.ret (.bool (isT ws ts))) h') : WF F 79 [.ptr r 0, .slice b 0 ws.length cap ex] h Q := by
  refine WF.code F79 rfl ?_
  simp (disch := first | omega | (simp only [hN] <;> omega) | fail) only [go_sem, simprocAttr]
  refine here_tok hp ?_
  intro h1 hf1
  have hn1 := hf1.n; try simp only [hN] at hn1
  have hb1 : h1.get b = some ⟨ver, .cells md 1 (ws.map .str)⟩ := by rw [hf1.all hbn]; exact hb
  simp (disch := first | omega | (simp only [hN] <;> omega) | fail) only [go_sem, simprocAttr, tokAV]
  cases ts with
  | nil =>
    simp (disch := first | omega | (simp only [hN] <;> omega) | fail) only [go_sem, simprocAttr, hdT]
    exact hQ _ ⟨by first | omega | (simp only [hN]; omega), fun b hb hne => by (try simp only [hN] at hb hne); simp (disch := first | omega | (simp only [hN] <;> omega) | fail) only [go_sem, simprocAttr, hf1.old]⟩
  | cons t ts =>
    simp (disch := first | omega | (simp only [hN] <;> omega) | fail) only [go_sem, simprocAttr, hdT]
    by_cases k2 : t.kind = 2
    · have e : ((t.kind : Int) == 2) = true := by simp [k2]
      simp (disch := first | omega | (simp only [hN] <;> omega) | fail) only [go_sem, simprocAttr, e]
      refine sContains (ws := ws) (ver := ver) (md := md) (by rw [AHeap.get_upd, AHeap.get_alloc]; simp only [if_neg (show ¬ b = h1.n by omega)]; exact hb1) hl ?_
      simp (disch := first | omega | (simp only [hN] <;> omega) | fail) only [go_sem, simprocAttr]
      have e2 : isT ws (t :: ts) = ws.contains t.text := by simp [isT, k2]
      rw [← e2]
      exact hQ _ ⟨by first | omega | (simp only [hN]; omega), fun b hb hne => by (try simp only [hN] at hb hne); simp (disch := first | omega | (simp only [hN] <;> omega) | fail) only [go_sem, simprocAttr, hf1.old]⟩
    · have e : ((t.kind : Int) == 2) = false := by simpa using fun h : (t.kind : Int) = 2 => k2 (by omega)
      by_cases k5 : t.kind = 5
      · have e5 : ((t.kind : Int) == 5) = true := by simp [k5]
        simp (disch := first | omega | (simp only [hN] <;> omega) | fail) only [go_sem, simprocAttr, e, e5]
        refine sContains (ws := ws) (ver := ver) (md := md) (by rw [AHeap.get_upd, AHeap.get_alloc]; simp only [if_neg (show ¬ b = h1.n by omega)]; exact hb1) hl ?_
        simp (disch := first | omega | (simp only [hN] <;> omega) | fail) only [go_sem, simprocAttr]
        have e2 : isT ws (t :: ts) = ws.contains t.text := by simp [isT, k5]
        rw [← e2]
        exact hQ _ ⟨by first | omega | (simp only [hN]; omega), fun b hb hne => by (try simp only [hN] at hb hne); simp (disch := first | omega | (simp only [hN] <;> omega) | fail) only [go_sem, simprocAttr, hf1.old]⟩
      · have e5 : ((t.kind : Int) == 5) = false := by simpa using fun h : (t.kind : Int) = 5 => k5 (by omega)
        simp (disch := first | omega | (simp only [hN] <;> omega) | fail) only [go_sem, simprocAttr, e, e5]
        have e2 : isT ws (t :: ts) = false := by simp [isT, k2, k5]
        rw [← e2]
        exact hQ _ ⟨by first | omega | (simp only [hN]; omega), fun b hb hne => by (try simp only [hN] at hb hne); simp (disch := first | omega | (simp only [hN] <;> omega) | fail) only [go_sem, simprocAttr, hf1.old]⟩
theorem wrong_tok {E r lv : Nat} {ts : List Tok} {h : AHeap} (hp : PInv h r E ts lv) {Q : QR} (hQ : ∀ h', Fr h.n h h' → Q (treeStop 2 (hdT E ts).pos) h') : WF F 64 [.ptr r 0] h Q := by
  refine WF.code F64 rfl ?_
  simp (disch := first | omega | (simp only [hN] <;> omega) | fail) only [go_sem, simprocAttr, hp.gh.g2]
  refine here_tok hp ?_
  intro h1 hf1
  have hn1 := hf1.n; try simp only [hN] at hn1
  have hn0 := hp.gh.n
  have q : h1.get 2 = h.get 2 := hf1.all (by omega)
  simp (disch := first | omega | (simp only [hN] <;> omega) | fail) only [go_sem, simprocAttr, tokAV, q]
  exact hQ _ hf1
/-- The step to the next token. -/
theorem TokR.slc {h : AHeap} {r : Nat} {ts : List Tok} {v : AV} (t : TokR h r ts v) (hne : ts ≠ []) : ∃ b o ver cs, v = .slice b o ts.length ts.length false ∧ h.get b = some ⟨ver, .cells .own 5 cs⟩ ∧ b < r ∧ TokR h r ts.tail (.slice b (o + 5) (ts.length - 1) (ts.length - 1) false) := by
  rcases t with ⟨rfl, rfl⟩ | ⟨b, ver2, k, all, rfl, hb, hc, hd⟩
  · exact absurd rfl hne
  · refine ⟨b, _, _, _, rfl, hc, hb, .inr ⟨b, ver2, k + 1, all, ?_, hb, hc, ?_⟩⟩
    · rw [List.length_tail, Nat.add_mul]
    · rw [← List.tail_drop, hd]
theorem take_tok {E r lv k : Nat} {ts : List Tok} {h : AHeap} (hp : PInv h r E ts lv) (hk : k ≠ 0) {Q : QR}
    (hQ : if (hdT E ts).kind = k then ∀ h', Fr r h h' → PInv h' r E ts.tail lv → Q (.ret (tokAV (hdT E ts))) h' else ∀ h', Fr r h h' → Q (treeStop 2 (hdT E ts).pos) h') : WF F 80 [.ptr r 0, .int .i64 (k : Int)] h Q := by
  refine WF.code F80 rfl ?_
  have hlt := hp.hi
  simp (disch := first | omega | (simp only [hN] <;> omega) | fail) only [go_sem, simprocAttr]
  have hp0 := hp.fr (Fr.alloc (Fr.refl h.n h) (.cells .own 0 [.int .i64 0, .str [], .int .i64 0, .int .u64 0, .int .i64 0]))
  refine here_tok hp0 ?_
  intro h1 hf1
  have hn1 := hf1.n; try simp only [hN] at hn1
  simp (disch := first | omega | (simp only [hN] <;> omega) | fail) only [go_sem, simprocAttr, tokAV]
  by_cases hh : (hdT E ts).kind = k
  · rw [if_pos hh] at hQ
    have e : (((hdT E ts).kind : Int) != (k : Int)) = false := by simp [hh]
    obtain ⟨ver, v, hr, ht⟩ := hp.st
    obtain ⟨b, o, ver2, cs, rfl, hc, hb, ht'⟩ := ht.slc (hdT_ne (E := E) (by omega))
    have hpos : 0 < ts.length := List.length_pos_iff.2 (hdT_ne (E := E) (by omega))
    have c1 : bnd (some (.int .i64 1)) 0 ts.length = some 1 := bnd_num (i := 1) (by omega)
    have c2 : ts.length.beq 0 = false := by rw [beq_nat]; exact decide_eq_false (by omega)
    have q1 : h1.get r = some ⟨ver, .cells .own 0 [.slice b o ts.length ts.length false, .int .i64 (E : Int), .int .i64 (lv : Int)]⟩ := by rw [hf1.all (by simp (disch := first | omega | (simp only [hN] <;> omega) | fail) only [go_sem, simprocAttr]; omega), AHeap.get_alloc, if_neg (by omega)]; exact hr
    have q2 : h1.get b = some ⟨ver2, .cells .own 5 cs⟩ := by rw [hf1.all (by simp (disch := first | omega | (simp only [hN] <;> omega) | fail) only [go_sem, simprocAttr]; omega), AHeap.get_alloc, if_neg (by omega)]; exact hc
    have q3 := hf1.all (b := h.n) (by simp (disch := first | omega | (simp only [hN] <;> omega) | fail) only [go_sem, simprocAttr]; omega)
    rw [AHeap.get_alloc, if_pos rfl] at q3
    have g1 : (h.n = r) = False := by simp; omega
    have g2 : (h1.n = r) = False := by simp; omega
    have g3 : (h1.n = b) = False := by simp; omega
    simp (disch := first | omega | (simp only [hN] <;> omega) | fail) only [go_sem, simprocAttr, e, q1, q2, q3, c1, c2, Option.isSome_none, Bool.and_false, cond_false]
    have hf : ∀ b', b' < h.n → h1.get b' = h.get b' := fun b' hb' => by rw [hf1.all (by simp (disch := first | omega | (simp only [hN] <;> omega) | fail) only [go_sem, simprocAttr]; omega), AHeap.get_alloc, if_neg (by omega)]
    refine hQ _ ?_ ?_
    · exact ⟨by first | omega | (simp only [hN]; omega), fun b hb hne => by (try simp only [hN] at hb hne); simp (disch := first | omega | (simp only [hN] <;> omega) | fail) only [go_sem, simprocAttr, hf]⟩
    · exact hp.step (ver := ver + 1) ⟨by first | omega | (simp only [hN]; omega), fun b hb hne => by (try simp only [hN] at hb hne); simp (disch := first | omega | (simp only [hN] <;> omega) | fail) only [go_sem, simprocAttr, hf]⟩ (by simp (disch := first | omega | (simp only [hN] <;> omega) | fail) only [go_sem, simprocAttr]) ht' hp.lvl
  · rw [if_neg hh] at hQ
    have e : (((hdT E ts).kind : Int) != (k : Int)) = true := by simp; omega
    simp (disch := first | omega | (simp only [hN] <;> omega) | fail) only [go_sem, simprocAttr, e]
    refine wrong_tok (hp.fr (ts := ts) (h' := (h1.alloc (.cells .own 0 [.int .i64 0, .str [], .int .i64 0, .int .u64 0, .int .i64 0])).upd h1.n 1 (.cells .own 0 [.int .i64 ((hdT E ts).kind : Int), .str (hdT E ts).text, .int .i64 ((hdT E ts).n : Int), .int .u64 ((hdT E ts).bits : Int), .int .i64 ((hdT E ts).pos : Int)])) ⟨by first | omega | (simp only [hN]; omega), fun b hb hne => by (try simp only [hN] at hb hne); simp (disch := first | omega | (simp only [hN] <;> omega) | fail) only [go_sem, simprocAttr, hf1.old]⟩) ?_
    intro h2 hf2
    have hn2 := hf2.n; try simp only [hN] at hn2
    simp (disch := first | omega | (simp only [hN] <;> omega) | fail) only [go_sem, simprocAttr]
    exact hQ _ ⟨by first | omega | (simp only [hN]; omega), fun b hb hne => by (try simp only [hN] at hb hne); simp (disch := first | omega | (simp only [hN] <;> omega) | fail) only [go_sem, simprocAttr, hf2.old, hf1.old]⟩
theorem must_tok {E r lv : Nat} {w : Bs} {ts : List Tok} {h : AHeap} (hp : PInv h r E ts lv) {Q : QR}
    (hQ : if isT [w] ts = true then ∀ h', Fr r h h' → PInv h' r E ts.tail lv → Q (.ret (tokAV (hdT E ts))) h' else ∀ h', Fr r h h' → Q (treeStop 2 (hdT E ts).pos) h') : WF F 85 [.ptr r 0, .str w] h Q := by
  refine WF.code F85 rfl ?_
  have hlt := hp.hi
  simp (disch := first | omega | (simp only [hN] <;> omega) | fail) only [go_sem, simprocAttr]
  refine is_tok (ws := [w]) (md := .own) (ver := 0) (E := E) (ts := ts) (lv := lv) (hp.fr ⟨by first | omega | (simp only [hN]; omega), fun b hb hne => by (try simp only [hN] at hb hne); simp (disch := first | omega | (simp only [hN] <;> omega) | fail) only [go_sem, simprocAttr]⟩) (by (first | (simp (disch := first | omega | (simp only [hN] <;> omega) | fail) only [go_sem, simprocAttr, List.map]; done) | (simp (disch := first | omega | (simp only [hN] <;> omega) | fail) only [go_sem, simprocAttr, List.map]; rfl))) (by simp (disch := first | omega | (simp only [hN] <;> omega) | fail) only [go_sem, simprocAttr]; omega) (show 1 < 2 ^ 62 by decide) ?_
  intro h1 hf1
  have hn1 := hf1.n; try simp only [hN] at hn1
  simp (disch := first | omega | (simp only [hN] <;> omega) | fail) only [go_sem, simprocAttr]
  by_cases hh : isT [w] ts = true
  · rw [if_pos hh] at hQ
    obtain ⟨ver, v, hr, ht⟩ := hp.st
    obtain ⟨b, o, ver2, cs, rfl, hc, hb, ht'⟩ := ht.slc (isT_ne hh)
    have hpos : 0 < ts.length := List.length_pos_iff.2 (isT_ne hh)
    have c1 : bnd (some (.int .i64 1)) 0 ts.length = some 1 := bnd_num (i := 1) (by omega)
    have c2 : ts.length.beq 0 = false := by rw [beq_nat]; exact decide_eq_false (by omega)
    simp (disch := first | omega | (simp only [hN] <;> omega) | fail) only [go_sem, simprocAttr, hh]
    refine here_tok (hp.fr (ts := ts) (h' := h1) ⟨by first | omega | (simp only [hN]; omega), fun b hb hne => by (try simp only [hN] at hb hne); simp (disch := first | omega | (simp only [hN] <;> omega) | fail) only [go_sem, simprocAttr, hf1.old]⟩) ?_
    intro h2 hf2
    have hn2 := hf2.n; try simp only [hN] at hn2
    have hf : ∀ b', b' < h.n → h2.get b' = h.get b' := fun b' hb' => by simp (disch := first | omega | (simp only [hN] <;> omega) | fail) only [go_sem, simprocAttr, hf2.old, hf1.old]
    have q1 := (hf r (by omega)).trans hr
    have q2 := (hf b (by omega)).trans hc
    have q3 : h2.get h.n = some ⟨0, .cells .own 0 [.int .i64 0, .str [], .int .i64 0, .int .u64 0, .int .i64 0]⟩ := by simp (disch := first | omega | (simp only [hN] <;> omega) | fail) only [go_sem, simprocAttr, hf2.old, hf1.old]
    have g1 : (h.n = r) = False := by simp; omega
    have g2 : (h2.n = r) = False := by simp; omega
    have g3 : (h2.n = b) = False := by simp; omega
    simp (disch := first | omega | (simp only [hN] <;> omega) | fail) only [go_sem, simprocAttr, tokAV, q1, q2, q3, c1, c2, Option.isSome_none, Bool.and_false, cond_false]
    refine hQ _ ?_ ?_
    · exact ⟨by first | omega | (simp only [hN]; omega), fun b hb hne => by (try simp only [hN] at hb hne); simp (disch := first | omega | (simp only [hN] <;> omega) | fail) only [go_sem, simprocAttr, hf]⟩
    · exact hp.step (ver := ver + 1) ⟨by first | omega | (simp only [hN]; omega), fun b hb hne => by (try simp only [hN] at hb hne); simp (disch := first | omega | (simp only [hN] <;> omega) | fail) only [go_sem, simprocAttr, hf]⟩ (by simp (disch := first | omega | (simp only [hN] <;> omega) | fail) only [go_sem, simprocAttr]) ht' hp.lvl
  · rw [if_neg hh] at hQ
    have hh' : isT [w] ts = false := by simpa using hh
    simp (disch := first | omega | (simp only [hN] <;> omega) | fail) only [go_sem, simprocAttr, hh']
    refine wrong_tok (hp.fr (ts := ts) (h' := h1) ⟨by first | omega | (simp only [hN]; omega), fun b hb hne => by (try simp only [hN] at hb hne); simp (disch := first | omega | (simp only [hN] <;> omega) | fail) only [go_sem, simprocAttr, hf1.old]⟩) ?_
    intro h2 hf2
    have hn2 := hf2.n; try simp only [hN] at hn2
    simp (disch := first | omega | (simp only [hN] <;> omega) | fail) only [go_sem, simprocAttr]
    exact hQ _ ⟨by first | omega | (simp only [hN]; omega), fun b hb hne => by (try simp only [hN] at hb hne); simp (disch := first | omega | (simp only [hN] <;> omega) | fail) only [go_sem, simprocAttr, hf2.old, hf1.old]⟩
theorem maybe_tok {E r lv : Nat} {w : Bs} {ts : List Tok} {h : AHeap} (hp : PInv h r E ts lv) {Q : QR}
    (hQ : if isT [w] ts = true then ∀ h', Fr r h h' → PInv h' r E ts.tail lv → Q (.ret (.bool true)) h' else ∀ h', Fr h.n h h' → Q (.ret (.bool false)) h') : WF F 101 [.ptr r 0, .str w] h Q := by
  refine WF.code F101 rfl ?_
  have hlt := hp.hi
  simp (disch := first | omega | (simp only [hN] <;> omega) | fail) only [go_sem, simprocAttr]
  refine is_tok (ws := [w]) (md := .own) (ver := 0) (E := E) (ts := ts) (lv := lv) (hp.fr ⟨by first | omega | (simp only [hN]; omega), fun b hb hne => by (try simp only [hN] at hb hne); simp (disch := first | omega | (simp only [hN] <;> omega) | fail) only [go_sem, simprocAttr]⟩) (by (first | (simp (disch := first | omega | (simp only [hN] <;> omega) | fail) only [go_sem, simprocAttr, List.map]; done) | (simp (disch := first | omega | (simp only [hN] <;> omega) | fail) only [go_sem, simprocAttr, List.map]; rfl))) (by simp (disch := first | omega | (simp only [hN] <;> omega) | fail) only [go_sem, simprocAttr]; omega) (show 1 < 2 ^ 62 by decide) ?_
  intro h1 hf1
  have hn1 := hf1.n; try simp only [hN] at hn1
  simp (disch := first | omega | (simp only [hN] <;> omega) | fail) only [go_sem, simprocAttr]
  have hf : ∀ b', b' < h.n → h1.get b' = h.get b' := fun b' hb' => by simp (disch := first | omega | (simp only [hN] <;> omega) | fail) only [go_sem, simprocAttr, hf1.old]
  by_cases hh : isT [w] ts = true
  · rw [if_pos hh] at hQ
    obtain ⟨ver, v, hr, ht⟩ := hp.st
    obtain ⟨b, o, ver2, cs, rfl, hc, hb, ht'⟩ := ht.slc (isT_ne hh)
    have hpos : 0 < ts.length := List.length_pos_iff.2 (isT_ne hh)
    have c1 : bnd (some (.int .i64 1)) 0 ts.length = some 1 := bnd_num (i := 1) (by omega)
    have c2 : ts.length.beq 0 = false := by rw [beq_nat]; exact decide_eq_false (by omega)
    have q1 := (hf r (by omega)).trans hr
    have q2 := (hf b (by omega)).trans hc
    simp (disch := first | omega | (simp only [hN] <;> omega) | fail) only [go_sem, simprocAttr, hh, q1, q2, c1, c2, Option.isSome_none, Bool.and_false, cond_false]
    refine hQ _ ?_ ?_
    · exact ⟨by first | omega | (simp only [hN]; omega), fun b hb hne => by (try simp only [hN] at hb hne); simp (disch := first | omega | (simp only [hN] <;> omega) | fail) only [go_sem, simprocAttr, hf]⟩
    · exact hp.step (ver := ver + 1) ⟨by first | omega | (simp only [hN]; omega), fun b hb hne => by (try simp only [hN] at hb hne); simp (disch := first | omega | (simp only [hN] <;> omega) | fail) only [go_sem, simprocAttr, hf]⟩ (by simp (disch := first | omega | (simp only [hN] <;> omega) | fail) only [go_sem, simprocAttr]) ht' hp.lvl
  · rw [if_neg hh] at hQ
    have hh' : isT [w] ts = false := by simpa using hh
    simp (disch := first | omega | (simp only [hN] <;> omega) | fail) only [go_sem, simprocAttr, hh']
    exact hQ _ ⟨by first | omega | (simp only [hN]; omega), fun b hb hne => by (try simp only [hN] at hb hne); simp (disch := first | omega | (simp only [hN] <;> omega) | fail) only [go_sem, simprocAttr, hf]⟩
theorem open_tok {E r lv : Nat} {w : Bs} {ts : List Tok} {h : AHeap} (hp : PInv h r E ts lv) {Q : QR}
    (hQ : if isT [w] ts = true then (if lv = 16 then ∀ h', Fr r h h' → Q (treeStop 3 (hdT E ts).pos) h' else ∀ h', Fr r h h' → PInv h' r E ts.tail (lv + 1) → Q (.ret (tokAV (hdT E ts))) h') else ∀ h', Fr r h h' → Q (treeStop 2 (hdT E ts).pos) h') : WF F 102 [.ptr r 0, .str w] h Q := by
  refine WF.code F102 rfl ?_
  have hlt := hp.hi
  have hlv := hp.lvl
  have hn0 := hp.gh.n
  simp (disch := first | omega | (simp only [hN] <;> omega) | fail) only [go_sem, simprocAttr]
  refine is_tok (ws := [w]) (md := .own) (ver := 0) (E := E) (ts := ts) (lv := lv) (hp.fr ⟨by first | omega | (simp only [hN]; omega), fun b hb hne => by (try simp only [hN] at hb hne); simp (disch := first | omega | (simp only [hN] <;> omega) | fail) only [go_sem, simprocAttr]⟩) (by (first | (simp (disch := first | omega | (simp only [hN] <;> omega) | fail) only [go_sem, simprocAttr, List.map]; done) | (simp (disch := first | omega | (simp only [hN] <;> omega) | fail) only [go_sem, simprocAttr, List.map]; rfl))) (by simp (disch := first | omega | (simp only [hN] <;> omega) | fail) only [go_sem, simprocAttr]; omega) (show 1 < 2 ^ 62 by decide) ?_
  intro h1 hf1
  have hn1 := hf1.n; try simp only [hN] at hn1
  have hf : ∀ b', b' < h.n → h1.get b' = h.get b' := fun b' hb' => by simp (disch := first | omega | (simp only [hN] <;> omega) | fail) only [go_sem, simprocAttr, hf1.old]
  have hp1 : PInv h1 r E ts lv := hp.fr ⟨by first | omega | (simp only [hN]; omega), fun b hb hne => by (try simp only [hN] at hb hne); simp (disch := first | omega | (simp only [hN] <;> omega) | fail) only [go_sem, simprocAttr, hf]⟩
  obtain ⟨ver, v, hr, ht⟩ := hp.st
  have q1 := (hf r (by omega)).trans hr
  simp (disch := first | omega | (simp only [hN] <;> omega) | fail) only [go_sem, simprocAttr]
  by_cases hh : isT [w] ts = true
  · rw [if_pos hh] at hQ
    by_cases h16 : lv = 16
    · rw [if_pos h16] at hQ
      have e : ((lv : Int) == 16) = true := by simp [h16]
      simp (disch := first | omega | (simp only [hN] <;> omega) | fail) only [go_sem, simprocAttr, hh, q1, e, hp1.gh.g3]
      refine here_tok hp1 ?_
      intro h2 hf2
      have hn2 := hf2.n; try simp only [hN] at hn2
      have q : h2.get 3 = h1.get 3 := hf2.all (by omega)
      simp (disch := first | omega | (simp only [hN] <;> omega) | fail) only [go_sem, simprocAttr, tokAV, q]
      exact hQ _ ⟨by first | omega | (simp only [hN]; omega), fun b hb hne => by (try simp only [hN] at hb hne); simp (disch := first | omega | (simp only [hN] <;> omega) | fail) only [go_sem, simprocAttr, hf2.old, hf]⟩
    · rw [if_neg h16] at hQ
      have e : ((lv : Int) == 16) = false := by simp; omega
      simp (disch := first | omega | (simp only [hN] <;> omega) | fail) only [go_sem, simprocAttr, hh, q1, e]
      have ep : ((lv : Int) + 1) = ((lv + 1 : Nat) : Int) := by omega
      rw [ep]
      refine must_tok (E := E) (lv := lv + 1) (ts := ts) (hp1.step (ver := ver + 1) (Fr.upd _ _ _) (by simp (disch := first | omega | (simp only [hN] <;> omega) | fail) only [go_sem, simprocAttr, ht.flat.1, ht.flat.2]) (ht.fr (q := r) ⟨by first | omega | (simp only [hN]; omega), fun b hb hne => by (try simp only [hN] at hb hne); simp (disch := first | omega | (simp only [hN] <;> omega) | fail) only [go_sem, simprocAttr, hf]⟩ hlt (by omega)) (by omega)) ?_
      rw [if_pos hh]
      intro h2 hf2 hp2
      have hn2 := hf2.n; try simp only [hN] at hn2
      have q3 : h2.get h.n = some ⟨0, .cells .own 0 [.int .i64 0, .str [], .int .i64 0, .int .u64 0, .int .i64 0]⟩ := by simp (disch := first | omega | (simp only [hN] <;> omega) | fail) only [go_sem, simprocAttr, hf2.old, hf1.old]
      simp (disch := first | omega | (simp only [hN] <;> omega) | fail) only [go_sem, simprocAttr, tokAV, q3]
      refine hQ _ ?_ ?_
      · exact ⟨by first | omega | (simp only [hN]; omega), fun b hb hne => by (try simp only [hN] at hb hne); simp (disch := first | omega | (simp only [hN] <;> omega) | fail) only [go_sem, simprocAttr, hf2.old, hf]⟩
      · exact hp2.fr' (q := h.n) (Fr.upd _ _ _) hlt
  · rw [if_neg hh] at hQ
    have hh' : isT [w] ts = false := by simpa using hh
    simp (disch := first | omega | (simp only [hN] <;> omega) | fail) only [go_sem, simprocAttr, hh']
    refine wrong_tok hp1 ?_
    intro h2 hf2
    have hn2 := hf2.n; try simp only [hN] at hn2
    simp (disch := first | omega | (simp only [hN] <;> omega) | fail) only [go_sem, simprocAttr]
    exact hQ _ ⟨by first | omega | (simp only [hN]; omega), fun b hb hne => by (try simp only [hN] at hb hne); simp (disch := first | omega | (simp only [hN] <;> omega) | fail) only [go_sem, simprocAttr, hf2.old, hf]⟩
end Go.Ev
/- The tree's reader: close, name, prim, unary. -/
namespace Go.Ev
open Go
set_option maxRecDepth 100000
set_option maxHeartbeats 4000000

attribute [go_sem] ndC
theorem close_tok {E r lv : Nat} {w : Bs} {ts : List Tok} {h : AHeap} (hp : PInv h r E ts (lv + 1)) {Q : QR}
    (hQ : if isT [w] ts = true then ∀ h', Fr r h h' → PInv h' r E ts.tail lv → Q (.ret (.tuple [])) h' else ∀ h', Fr r h h' → Q (treeStop 2 (hdT E ts).pos) h') : WF F 104 [.ptr r 0, .str w] h Q := by
  refine WF.code F104 rfl ?_
  have hlv := hp.lvl
  simp (disch := first | omega | (simp only [hN] <;> omega) | fail) only [go_sem, simprocAttr]
  refine must_tok hp ?_
  by_cases hh : isT [w] ts = true
  · rw [if_pos hh] at hQ ⊢
    intro h1 hf1 hp1
    obtain ⟨ver, v, hr, ht⟩ := hp1.st
    have hlt := hp1.hi
    have ep : (((lv + 1 : Nat) : Int) - 1) = (lv : Int) := by omega
    simp (disch := first | omega | (simp only [hN] <;> omega) | fail) only [go_sem, simprocAttr, tokAV, hr, ep]
    exact hQ _ (hf1.upd' _ _) (hp1.step (ver := ver + 1) (Fr.upd _ _ _) (by simp (disch := first | omega | (simp only [hN] <;> omega) | fail) only [go_sem, simprocAttr, ht.flat.1, ht.flat.2]) ht (by omega))
  · rw [if_neg hh] at hQ ⊢
    intro h1 hf1
    simp (disch := first | omega | (simp only [hN] <;> omega) | fail) only [go_sem, simprocAttr]
    exact hQ _ hf1

def PQ (h : AHeap) (r E lv : Nat) (Q : QR) : PR → Prop
  | .error (e, p) => ∀ h', Fr r h h' → Q (treeStop e p) h'
  | .ok (n, ts') => ∀ h' kv, Fr r h h' → PInv h' r E ts' lv → KidsR h.n h' n.kids kv → Q (.ret (.agg (ndC n kv))) h'
/-- A function of the reader does what a parser does. -/
def PSpec (fid E : Nat) (u : PT) : Prop := ∀ {h : AHeap} {r lv : Nat} {ts : List Tok} {Q : QR}, PInv h r E ts lv → u lv ts ≠ .error (0, 0) → PQ h r E lv Q (u lv ts) → WF F fid [.ptr r 0] h Q
theorem KidsR.one {lo b ver : Nat} {h : AHeap} {ex : Bool} {n : Nd} {kv : AV} (k : KidsR lo h n.kids kv) (hb : lo ≤ b) (hn : b < h.n) (hg : h.get b = some ⟨ver, .cells .own 9 (ndC n kv)⟩) : KidsR lo h [n] (.slice b 0 1 1 ex) :=
  KidsS.own (by simp) (show 1 < 2 ^ 61 by decide) hb hn hg (by have := RowsS.cons k RowsS.nil; rwa [List.append_nil] at this)
theorem KidsR.two {lo b ver : Nat} {h : AHeap} {ex : Bool} {n m : Nd} {kv mv : AV} (k : KidsR lo h n.kids kv) (k2 : KidsR lo h m.kids mv) (hb : lo ≤ b) (hn : b < h.n) (hg : h.get b = some ⟨ver, .cells .own 9 (ndC n kv ++ ndC m mv)⟩) : KidsR lo h [n, m] (.slice b 0 2 2 ex) :=
  KidsS.own (by simp) (show 2 < 2 ^ 61 by decide) hb hn hg (by have := RowsS.cons k (RowsS.cons k2 RowsS.nil); rwa [List.append_nil] at this)

theorem name_tok {E : Nat} {x : PT} (hx : PSpec 38 E x) {h : AHeap} {r lv : Nat} {ts : List Tok} {Q : QR} (hp : PInv h r E ts lv) (h1k : (hdT E ts).kind = 1) (hz : nameP E x lv ts ≠ .error (0, 0)) (hQ : PQ h r E lv Q (nameP E x lv ts)) : WF F 120 [.ptr r 0] h Q := by
  refine WF.code F120 rfl ?_
  have hlt := hp.hi
  simp (disch := first | omega | (simp only [hN] <;> omega) | fail) only [go_sem, simprocAttr]
  refine take_tok (k := 1) (E := E) (lv := lv) (ts := ts) (hp.fr ⟨by first | omega | (simp only [hN]; omega), fun b hb hne => by (try simp only [hN] at hb hne); simp (disch := first | omega | (simp only [hN] <;> omega) | fail) only [go_sem, simprocAttr]⟩) (by decide) ?_
  rw [if_pos h1k]
  intro h1 hf1 hp1
  have hn1 := hf1.n; try simp only [hN] at hn1
  simp (disch := first | omega | (simp only [hN] <;> omega) | fail) only [go_sem, simprocAttr, tokAV]
  have hf : ∀ b', b' < h.n → b' ≠ r → h1.get b' = h.get b' := fun b' hb' hn' => by simp (disch := first | omega | (simp only [hN] <;> omega) | fail) only [go_sem, simprocAttr, hf1.old]
  have q0 : h1.get h.n = some ⟨0, .cells .own 0 [.int .i64 0, .int .i64 0, .str [], .int .i64 0, .int .i64 0, .int .i64 0, .int .i64 0, .int .u64 0, .nilSlice]⟩ := by simp (disch := first | omega | (simp only [hN] <;> omega) | fail) only [go_sem, simprocAttr, hf1.old]
  generalize hts : ts.tail = ts1 at hp1
  simp only [nameP, hts] at hz hQ
  have hlt1 := hp1.hi
  generalize hdT E ts = t at *
  refine is_tok (ws := [[91]]) (md := .own) (ver := 0) (E := E) (ts := ts1) (lv := lv) (hp1.fr ⟨by first | omega | (simp only [hN]; omega), fun b hb hne => by (try simp only [hN] at hb hne); simp (disch := first | omega | (simp only [hN] <;> omega) | fail) only [go_sem, simprocAttr]⟩) (by (first | (simp (disch := first | omega | (simp only [hN] <;> omega) | fail) only [go_sem, simprocAttr, List.map]; done) | (simp (disch := first | omega | (simp only [hN] <;> omega) | fail) only [go_sem, simprocAttr, List.map]; rfl))) (by simp (disch := first | omega | (simp only [hN] <;> omega) | fail) only [go_sem, simprocAttr]; omega) (show 1 < 2 ^ 62 by decide) ?_
  intro h2 hf2
  have hn2 := hf2.n; try simp only [hN] at hn2
  by_cases hh : isT [[91]] ts1 = true
  · rw [if_pos hh] at hz hQ
    simp only [inP, hh, if_true] at hz hQ
    simp (disch := first | omega | (simp only [hN] <;> omega) | fail) only [go_sem, simprocAttr, hh, hf2.old]
    refine open_tok (E := E) (lv := lv) (ts := ts1) (hp1.fr ⟨by first | omega | (simp only [hN]; omega), fun b hb hne => by (try simp only [hN] at hb hne); simp (disch := first | omega | (simp only [hN] <;> omega) | fail) only [go_sem, simprocAttr, hf2.old]⟩) ?_
    rw [if_pos hh]
    by_cases h16 : lv = 16
    · rw [if_pos h16] at hQ ⊢
      intro h3 hf3
      have hn3 := hf3.n; try simp only [hN] at hn3
      simp (disch := first | omega | (simp only [hN] <;> omega) | fail) only [go_sem, simprocAttr]
      exact hQ _ ⟨by first | omega | (simp only [hN]; omega), fun b hb hne => by (try simp only [hN] at hb hne); simp (disch := first | omega | (simp only [hN] <;> omega) | fail) only [go_sem, simprocAttr, hf3.old, hf2.old, hf]⟩
    · rw [if_neg h16] at hQ hz ⊢
      intro h3 hf3 hp3
      have hn3 := hf3.n; try simp only [hN] at hn3
      simp (disch := first | omega | (simp only [hN] <;> omega) | fail) only [go_sem, simprocAttr, tokAV]
      refine hx hp3 ?_ ?_
      · intro e; rw [e] at hz; exact hz rfl
      cases hxx : x (lv + 1) ts1.tail with
      | error e =>
        obtain ⟨e, p⟩ := e
        rw [hxx] at hQ
        intro h4 hf4
        have hn4 := hf4.n; try simp only [hN] at hn4
        simp (disch := first | omega | (simp only [hN] <;> omega) | fail) only [go_sem, simprocAttr]
        exact hQ _ ⟨by first | omega | (simp only [hN]; omega), fun b hb hne => by (try simp only [hN] at hb hne); simp (disch := first | omega | (simp only [hN] <;> omega) | fail) only [go_sem, simprocAttr, hf4.old, hf3.old, hf2.old, hf]⟩
      | ok y =>
        obtain ⟨k, ts2⟩ := y
        rw [hxx] at hQ hz
        intro h4 kv hf4 hp4 hk4
        have hn4 := hf4.n; try simp only [hN] at hn4
        have q4 : h4.get (h1.n + 1) = some ⟨2, .cells .own 0 [.int .i64 29, .int .i64 (t.pos : Int), .str t.text, .int .i64 0, .int .i64 0, .int .i64 0, .int .i64 0, .int .u64 0, .nilSlice]⟩ := by simp (disch := first | omega | (simp only [hN] <;> omega) | fail) only [go_sem, simprocAttr, hf4.old, hf3.old]
        simp (disch := first | omega | (simp only [hN] <;> omega) | fail) only [go_sem, simprocAttr, q4, hk4.flat.1, hk4.flat.2]
        refine close_tok (E := E) (lv := lv) (ts := ts2) ((hp4.fr (h' := h4.alloc (.cells .own 9 (ndC k kv))) ⟨by first | omega | (simp only [hN]; omega), fun b hb hne => by (try simp only [hN] at hb hne); simp (disch := first | omega | (simp only [hN] <;> omega) | fail) only [go_sem, simprocAttr]⟩).fr' (q := h1.n + 1) (Fr.upd _ _ _) (by omega)) ?_
        simp only at hQ
        by_cases hb : isT [[93]] ts2 = true
        · rw [if_pos hb] at hQ ⊢
          intro h5 hf5 hp5
          have hn5 := hf5.n; try simp only [hN] at hn5
          have q5 : h5.get h.n = some ⟨0, .cells .own 0 [.int .i64 0, .int .i64 0, .str [], .int .i64 0, .int .i64 0, .int .i64 0, .int .i64 0, .int .u64 0, .nilSlice]⟩ := by simp (disch := first | omega | (simp only [hN] <;> omega) | fail) only [go_sem, simprocAttr, hf5.old, hf4.old, hf3.old, hf2.old, q0]
          have q6 : h5.get (h1.n + 1) = some ⟨3, .cells .own 0 [.int .i64 29, .int .i64 (t.pos : Int), .str t.text, .int .i64 0, .int .i64 0, .int .i64 0, .int .i64 0, .int .u64 0, .slice h4.n 0 1 1 true]⟩ := by simp (disch := first | omega | (simp only [hN] <;> omega) | fail) only [go_sem, simprocAttr, hf5.old]
          simp (disch := first | omega | (simp only [hN] <;> omega) | fail) only [go_sem, simprocAttr, q5, q6]
          refine hQ _ _ ⟨by first | omega | (simp only [hN]; omega), fun b hb hne => by (try simp only [hN] at hb hne); simp (disch := first | omega | (simp only [hN] <;> omega) | fail) only [go_sem, simprocAttr, hf5.old, hf4.old, hf3.old, hf2.old, hf]⟩ (hp5.fr' (q := h.n) (Fr.upd _ _ _) hlt) ?_
          refine KidsR.one (ver := 0) (kv := kv) (hk4.keep (by omega) (by simp (disch := first | omega | (simp only [hN] <;> omega) | fail) only [go_sem, simprocAttr]; omega) fun b hb1 hb2 => by simp (disch := first | omega | (simp only [hN] <;> omega) | fail) only [go_sem, simprocAttr, hf5.old]) (by omega) (by simp (disch := first | omega | (simp only [hN] <;> omega) | fail) only [go_sem, simprocAttr]; omega) (by simp (disch := first | omega | (simp only [hN] <;> omega) | fail) only [go_sem, simprocAttr, hf5.old])
        · rw [if_neg hb] at hQ ⊢
          intro h5 hf5
          have hn5 := hf5.n; try simp only [hN] at hn5
          simp (disch := first | omega | (simp only [hN] <;> omega) | fail) only [go_sem, simprocAttr]
          exact hQ _ ⟨by first | omega | (simp only [hN]; omega), fun b hb hne => by (try simp only [hN] at hb hne); simp (disch := first | omega | (simp only [hN] <;> omega) | fail) only [go_sem, simprocAttr, hf5.old, hf4.old, hf3.old, hf2.old, hf]⟩
  · rw [if_neg hh] at hz hQ
    have hh' : isT [[91]] ts1 = false := by simpa using hh
    simp (disch := first | omega | (simp only [hN] <;> omega) | fail) only [go_sem, simprocAttr, hh', hf2.old, q0]
    refine hQ _ .nilSlice ⟨by first | omega | (simp only [hN]; omega), fun b hb hne => by (try simp only [hN] at hb hne); simp (disch := first | omega | (simp only [hN] <;> omega) | fail) only [go_sem, simprocAttr, hf2.old, hf]⟩ ((hp1.fr (h' := h2) ⟨by first | omega | (simp only [hN]; omega), fun b hb hne => by (try simp only [hN] at hb hne); simp (disch := first | omega | (simp only [hN] <;> omega) | fail) only [go_sem, simprocAttr, hf2.old]⟩).fr' (q := h.n) (Fr.upd _ _ _) hlt) ?_
    exact .nil
end Go.Ev
/- The document's reader of trees: its small functions. -/
namespace Go.Ev
open Go
set_option maxRecDepth 100000
set_option maxHeartbeats 4000000

/-- A reader of a row of tokens: where it stands, the first error. -/
structure RInv (h : AHeap) (r E : Nat) (all : List Tok) (nx e q : Nat) : Prop where
  hi : r < h.n
  nxl : nx ≤ all.length
  small : all.length ≤ 2000
  st : ∃ ver v, h.get r = some ⟨ver, .cells .own 0 [v, .int .i64 (E : Int), .int .i64 (nx : Int), .int .i64 (e : Int), .int .i64 (q : Int)]⟩ ∧ lenA v = some (all.length : Int) ∧ (v.flat = true ∧ v.cells = [v]) ∧ (all = [] ∨ ∃ b vb c ex, v = .slice b 0 all.length c ex ∧ b < r ∧ h.get b = some ⟨vb, .cells .own 5 (toksAV all)⟩)
theorem RInv.fr' {h h' : AHeap} {q' r E nx e q : Nat} {all : List Tok} (p : RInv h r E all nx e q) (f : Fr q' h h') (hq : r < q') : RInv h' r E all nx e q := by
  obtain ⟨ver, v, h1, h2, h3, h4⟩ := p.st
  have := p.hi
  refine ⟨Nat.lt_of_lt_of_le p.hi f.n, p.nxl, p.small, ver, v, by rw [f.old r p.hi (by omega)]; exact h1, h2, h3, h4.imp id ?_⟩
  rintro ⟨b, vb, c, ex, g1, g2, g3⟩
  exact ⟨b, vb, c, ex, g1, g2, by rw [f.old b (by omega) (by omega)]; exact g3⟩
theorem RInv.fr {h h' : AHeap} {r E nx e q : Nat} {all : List Tok} (p : RInv h r E all nx e q) (f : Fr h.n h h') : RInv h' r E all nx e q := p.fr' f p.hi
theorem RInv.step {h h' : AHeap} {r E nx e q nx' e' q' ver ver' : Nat} {v : AV} {all : List Tok} (p : RInv h r E all nx e q) (f : Fr r h h') (hn : nx' ≤ all.length) (h0 : h.get r = some ⟨ver, .cells .own 0 [v, .int .i64 (E : Int), .int .i64 (nx : Int), .int .i64 (e : Int), .int .i64 (q : Int)]⟩) (h1 : h'.get r = some ⟨ver', .cells .own 0 [v, .int .i64 (E : Int), .int .i64 (nx' : Int), .int .i64 (e' : Int), .int .i64 (q' : Int)]⟩) : RInv h' r E all nx' e' q' := by
  obtain ⟨ver2, v2, g1, g2, g3, g4⟩ := p.st
  rw [h0] at g1
  cases g1
  have := p.hi
  refine ⟨Nat.lt_of_lt_of_le p.hi f.n, hn, p.small, ver', v, h1, g2, g3, g4.imp id ?_⟩
  rintro ⟨b, vb, c, ex, g1, g2, g3⟩
  exact ⟨b, vb, c, ex, g1, g2, by rw [f.old b (by omega) (by omega)]; exact g3⟩
/-- The token that stands at a number. -/
theorem RInv.tok {h : AHeap} {r E nx e q : Nat} {all : List Tok} (p : RInv h r E all nx e q) (hn : nx < all.length) : ∃ ver b vb c ex t ts, h.get r = some ⟨ver, .cells .own 0 [.slice b 0 all.length c ex, .int .i64 (E : Int), .int .i64 (nx : Int), .int .i64 (e : Int), .int .i64 (q : Int)]⟩ ∧ b < r ∧ h.get b = some ⟨vb, .cells .own 5 (toksAV all)⟩ ∧ all.drop nx = t :: ts ∧ row (toksAV all) (nx * 5) 5 = some (tokAV t).cells := by
  obtain ⟨ver, v, h1, h2, h3, h4 | ⟨b, vb, c, ex, rfl, g2, g3⟩⟩ := p.st
  · rw [h4] at hn; simp at hn
  · refine ⟨ver, b, vb, c, ex, all[nx], all.drop (nx + 1), h1, g2, g3, List.drop_eq_getElem_cons hn, ?_⟩
    exact flat_row (f := fun t => (tokAV t).cells) (fun _ => rfl) (List.getElem?_eq_getElem hn)
theorem row5 {vs : List AV} {o : Nat} {t : Tok} (h : row vs o 5 = some (tokAV t).cells) : vs[o]? = some (.int .i64 (t.kind : Int)) ∧ vs[o + 1]? = some (.str t.text) ∧ vs[o + 4]? = some (.int .i64 (t.pos : Int)) := by
  have g : ∀ i x, (tokAV t).cells[i]? = some x → vs[o + i]? = some x := by
    intro i x hx
    obtain ⟨h1, h2⟩ := row_inv h
    rw [h2, List.getElem?_take] at hx
    split at hx
    · rw [List.getElem?_drop] at hx; exact hx
    · cases hx
  exact ⟨g 0 _ rfl, g 1 _ rfl, g 4 _ rfl⟩
theorem place_tok {h : AHeap} {r E nx e q : Nat} {all : List Tok} (hp : RInv h r E all nx e q) {Q : QR} (hQ : Q (.ret (.int .i64 ((hdT E (all.drop nx)).pos : Int))) h) : WF F 72 [.ptr r 0] h Q := by
  refine WF.code F72 rfl ?_
  by_cases hn : nx < all.length
  · obtain ⟨ver, b, vb, c, ex, t, ts, h1, hb, h2, hd, hr⟩ := hp.tok hn
    obtain ⟨r0, r1, r4⟩ := row5 hr
    rw [hd] at hQ
    have g1 : decide ((nx : Int) < (all.length : Int)) = true := decide_eq_true (by omega)
    simp (disch := first | omega | (simp only [hN] <;> omega) | fail) only [go_sem, simprocAttr, h1, g1, h2, Int.toNat_natCast, Nat.zero_add, r4]
    exact hQ
  · obtain ⟨ver, v, h1, h2, h3, h4⟩ := hp.st
    have hd : all.drop nx = [] := List.drop_of_length_le (by omega)
    rw [hd] at hQ
    have g1 : decide ((nx : Int) < (all.length : Int)) = false := decide_eq_false (by omega)
    simp (disch := first | omega | (simp only [hN] <;> omega) | fail) only [go_sem, simprocAttr, h1, h2, g1]
    exact hQ
def seesT (e : Nat) (ts : List Tok) : Bs := if e = 0 then match ts with | [] => [] | t :: _ => (if t.kind = 2 ∨ t.kind = 5 then t.text else []) else []
theorem seesT_is {w : Bs} (hw : w ≠ []) {ts : List Tok} : (seesT 0 ts == w) = isT [w] ts := by
  cases ts with
  | nil => simp [seesT, isT]; exact fun h => hw h
  | cons t ts =>
    simp only [seesT, isT, if_true]
    by_cases hk : t.kind = 2 ∨ t.kind = 5
    · rw [if_pos hk]
      have : (decide (t.kind = 2) || decide (t.kind = 5)) = true := by simpa using hk
      rw [this, Bool.true_and, List.contains_cons]
      simp
    · rw [if_neg hk]
      have : (decide (t.kind = 2) || decide (t.kind = 5)) = false := by simpa using hk
      rw [this, Bool.false_and]
      simp
      exact fun h => hw h
theorem sees_tok {h : AHeap} {r E nx e q : Nat} {all : List Tok} (hp : RInv h r E all nx e q) {Q : QR} (hQ : ∀ h', Fr h.n h h' → Q (.ret (.str (seesT e (all.drop nx)))) h') : WF F 71 [.ptr r 0] h Q := by
  refine WF.code F71 rfl ?_
  have hlt := hp.hi
  by_cases he : e = 0
  · subst he
    have e0 : ((0 : Int) != 0) = false := rfl
    by_cases hn : nx < all.length
    · obtain ⟨ver, b, vb, c, ex, t, ts, h1, hb, h2, hd, hr⟩ := hp.tok hn
      have g1 : decide ((nx : Int) ≥ (all.length : Int)) = false := decide_eq_false (by omega)
      have g2 : decide ((nx : Int) < (all.length : Int)) = true := decide_eq_true (by omega)
      rw [hd] at hQ
      have d1 : decide (r = h.n) = false := decide_eq_false (by omega)
      have d2 : decide (b = h.n) = false := decide_eq_false (by omega)
      simp (disch := first | omega | (simp only [hN] <;> omega) | fail) only [go_sem, simprocAttr, h1, g1, g2, h2, Int.toNat_natCast, Nat.zero_add, hr, e0, tokAV, Int.natCast_zero, d1, d2]
      by_cases k2 : t.kind = 2
      · have e2 : ((t.kind : Int) == 2) = true := by simp [k2]
        simp (disch := first | omega | (simp only [hN] <;> omega) | fail) only [go_sem, simprocAttr, e2]
        have : seesT 0 (t :: ts) = t.text := by simp [seesT, k2]
        rw [this] at hQ
        exact hQ _ ⟨by first | omega | (simp only [hN]; omega), fun b hb hne => by (try simp only [hN] at hb hne); simp (disch := first | omega | (simp only [hN] <;> omega) | fail) only [go_sem, simprocAttr]⟩
      · have e2 : ((t.kind : Int) == 2) = false := by simp; omega
        by_cases k5 : t.kind = 5
        · have e5 : ((t.kind : Int) == 5) = true := by simp [k5]
          simp (disch := first | omega | (simp only [hN] <;> omega) | fail) only [go_sem, simprocAttr, e2, e5]
          have : seesT 0 (t :: ts) = t.text := by simp [seesT, k5]
          rw [this] at hQ
          exact hQ _ ⟨by first | omega | (simp only [hN]; omega), fun b hb hne => by (try simp only [hN] at hb hne); simp (disch := first | omega | (simp only [hN] <;> omega) | fail) only [go_sem, simprocAttr]⟩
        · have e5 : ((t.kind : Int) == 5) = false := by simp; omega
          simp (disch := first | omega | (simp only [hN] <;> omega) | fail) only [go_sem, simprocAttr, e2, e5]
          have : seesT 0 (t :: ts) = [] := by simp [seesT, k2, k5]
          rw [this] at hQ
          exact hQ _ ⟨by first | omega | (simp only [hN]; omega), fun b hb hne => by (try simp only [hN] at hb hne); simp (disch := first | omega | (simp only [hN] <;> omega) | fail) only [go_sem, simprocAttr]⟩
    · obtain ⟨ver, v, h1, h2, h3, h4⟩ := hp.st
      have hd : all.drop nx = [] := List.drop_of_length_le (by omega)
      rw [hd] at hQ
      have g1 : decide ((nx : Int) ≥ (all.length : Int)) = true := decide_eq_true (by omega)
      simp (disch := first | omega | (simp only [hN] <;> omega) | fail) only [go_sem, simprocAttr, h1, h2, g1, e0, Int.natCast_zero]
      exact hQ _ (Fr.refl _ _)
  · obtain ⟨ver, v, h1, h2, h3, h4⟩ := hp.st
    have e0 : ((e : Int) != 0) = true := by simp; omega
    have : seesT e (all.drop nx) = [] := by simp [seesT, he]
    rw [this] at hQ
    simp (disch := first | omega | (simp only [hN] <;> omega) | fail) only [go_sem, simprocAttr, h1, h2, e0]
    exact hQ _ (Fr.refl _ _)
def kindT (e E : Nat) (ts : List Tok) : Nat := if e = 0 then (hdT E ts).kind else 0
theorem kind_tok {h : AHeap} {r E nx e q : Nat} {all : List Tok} (hp : RInv h r E all nx e q) {Q : QR} (hQ : Q (.ret (.int .i64 (kindT e E (all.drop nx) : Int))) h) : WF F 95 [.ptr r 0] h Q := by
  refine WF.code F95 rfl ?_
  have hlt := hp.hi
  by_cases he : e = 0
  · subst he
    have e0 : ((0 : Int) != 0) = false := rfl
    by_cases hn : nx < all.length
    · obtain ⟨ver, b, vb, c, ex, t, ts, h1, hb, h2, hd, hr⟩ := hp.tok hn
      obtain ⟨r0, r1, r4⟩ := row5 hr
      have g1 : decide ((nx : Int) ≥ (all.length : Int)) = false := decide_eq_false (by omega)
      have g2 : decide ((nx : Int) < (all.length : Int)) = true := decide_eq_true (by omega)
      rw [hd] at hQ
      simp (disch := first | omega | (simp only [hN] <;> omega) | fail) only [go_sem, simprocAttr, h1, g1, g2, h2, Int.toNat_natCast, Nat.zero_add, Nat.add_zero, r0, e0, Int.natCast_zero]
      exact hQ
    · obtain ⟨ver, v, h1, h2, h3, h4⟩ := hp.st
      have hd : all.drop nx = [] := List.drop_of_length_le (by omega)
      rw [hd] at hQ
      have g1 : decide ((nx : Int) ≥ (all.length : Int)) = true := decide_eq_true (by omega)
      simp (disch := first | omega | (simp only [hN] <;> omega) | fail) only [go_sem, simprocAttr, h1, h2, g1, e0, Int.natCast_zero]
      exact hQ
  · obtain ⟨ver, v, h1, h2, h3, h4⟩ := hp.st
    have e0 : ((e : Int) != 0) = true := by simp; omega
    simp only [kindT, if_neg he] at hQ
    simp (disch := first | omega | (simp only [hN] <;> omega) | fail) only [go_sem, simprocAttr, h1, h2, e0]
    exact hQ
theorem fail_tok {h : AHeap} {r E nx e q k : Nat} {all : List Tok} (hp : RInv h r E all nx e q) {Q : QR} (hQ : ∀ h', Fr r h h' → RInv h' r E all nx (if e = 0 then k else e) (if e = 0 then (hdT E (all.drop nx)).pos else q) → Q (.ret (.tuple [])) h') : WF F 42 [.ptr r 0, .int .i64 (k : Int)] h Q := by
  refine WF.code F42 rfl ?_
  have hlt := hp.hi
  obtain ⟨ver, v, h1, h2, h3, h4⟩ := hp.st
  by_cases he : e = 0
  · subst he
    rw [if_pos rfl, if_pos rfl] at hQ
    have e0 : ((0 : Int) == 0) = true := rfl
    simp (disch := first | omega | (simp only [hN] <;> omega) | fail) only [go_sem, simprocAttr, h1, Int.natCast_zero, e0]
    refine place_tok hp ?_
    simp (disch := first | omega | (simp only [hN] <;> omega) | fail) only [go_sem, simprocAttr, h1, h3.1, h3.2]
    refine hQ _ ⟨by first | omega | (simp only [hN]; omega), fun b hb hne => by (try simp only [hN] at hb hne); simp (disch := first | omega | (simp only [hN] <;> omega) | fail) only [go_sem, simprocAttr]⟩ (hp.step ⟨by first | omega | (simp only [hN]; omega), fun b hb hne => by (try simp only [hN] at hb hne); simp (disch := first | omega | (simp only [hN] <;> omega) | fail) only [go_sem, simprocAttr]⟩ hp.nxl h1 (ver' := ver + 2) (by simp (disch := first | omega | (simp only [hN] <;> omega) | fail) only [go_sem, simprocAttr, h3.1, h3.2]))
  · rw [if_neg he, if_neg he] at hQ
    have e0 : ((e : Int) == 0) = false := by simp; omega
    simp (disch := first | omega | (simp only [hN] <;> omega) | fail) only [go_sem, simprocAttr, h1, e0]
    exact hQ _ (Fr.refl _ _) hp
end Go.Ev
/- The document's reader of trees: marks, tokens, levels, ranks. -/
namespace Go.Ev
open Go
set_option maxRecDepth 100000
set_option maxHeartbeats 4000000

def EatQ (h : AHeap) (r E : Nat) (all : List Tok) (nx e q : Nat) (w : Bs) (P : AHeap → Prop) : Prop :=
  if e = 0 then
    if isT [w] (all.drop nx) = true then ∀ h', Fr r h h' → RInv h' r E all (nx + 1) 0 q → P h'
    else ∀ h', Fr r h h' → RInv h' r E all nx 2 (hdT E (all.drop nx)).pos → P h'
  else ∀ h', Fr r h h' → RInv h' r E all nx e q → P h'
theorem drop_ne {α : Type} {l : List α} {n : Nat} (h : l.drop n ≠ []) : n < l.length := by
  rcases Nat.lt_or_ge n l.length with g | g
  · exact g
  · exact absurd (List.drop_of_length_le g) h
theorem eat_tok {h : AHeap} {r E nx e q : Nat} {all : List Tok} {w : Bs} (hw : w ≠ []) (hp : RInv h r E all nx e q) {Q : QR} (hQ : EatQ h r E all nx e q w (Q (.ret (.tuple [])))) : WF F 94 [.ptr r 0, .str w] h Q := by
  refine WF.code F94 rfl ?_
  have hlt := hp.hi
  simp (disch := first | omega | (simp only [hN] <;> omega) | fail) only [go_sem, simprocAttr]
  refine sees_tok hp ?_
  intro h1 hf1
  have hn1 := hf1.n; try simp only [hN] at hn1
  have hp1 := hp.fr hf1
  unfold EatQ at hQ
  by_cases he : e = 0
  · subst he
    rw [if_pos rfl] at hQ
    have hs := seesT_is hw (ts := all.drop nx)
    generalize seesT 0 (all.drop nx) = S at hs
    by_cases hi : isT [w] (all.drop nx) = true
    · rw [if_pos hi] at hQ
      rw [hi] at hs
      have hn := drop_ne (isT_ne hi)
      obtain ⟨ver, v, g1, g2, g3, g4⟩ := hp1.st
      have hsm := hp.small
      simp (disch := first | omega | (simp only [hN] <;> omega) | fail) only [go_sem, simprocAttr, hs, g1, g3.1, g3.2]
      refine hQ _ ⟨by first | omega | (simp only [hN]; omega), fun b hb hne => by (try simp only [hN] at hb hne); simp (disch := first | omega | (simp only [hN] <;> omega) | fail) only [go_sem, simprocAttr, hf1.old]⟩ (hp1.step (ver' := ver + 1) ⟨by first | omega | (simp only [hN]; omega), fun b hb hne => by (try simp only [hN] at hb hne); simp (disch := first | omega | (simp only [hN] <;> omega) | fail) only [go_sem, simprocAttr]⟩ hn g1 (by (first | (simp (disch := first | omega | (simp only [hN] <;> omega) | fail) only [go_sem, simprocAttr, g3.1, g3.2]; done) | (simp (disch := first | omega | (simp only [hN] <;> omega) | fail) only [go_sem, simprocAttr, g3.1, g3.2]; rfl))))
    · rw [if_neg hi] at hQ
      have hi' : isT [w] (all.drop nx) = false := by simpa using hi
      rw [hi'] at hs
      simp (disch := first | omega | (simp only [hN] <;> omega) | fail) only [go_sem, simprocAttr, hs]
      refine fail_tok hp1 ?_
      intro h2 hf2 hp2
      have hn2 := hf2.n; try simp only [hN] at hn2
      simp (disch := first | omega | (simp only [hN] <;> omega) | fail) only [go_sem, simprocAttr]
      exact hQ _ ⟨by first | omega | (simp only [hN]; omega), fun b hb hne => by (try simp only [hN] at hb hne); simp (disch := first | omega | (simp only [hN] <;> omega) | fail) only [go_sem, simprocAttr, hf2.old, hf1.old]⟩ hp2
  · rw [if_neg he] at hQ
    have hs : seesT e (all.drop nx) = [] := by simp [seesT, he]
    rw [hs]
    have h0 : (([] : Bs) == w) = false := by cases w with | nil => exact absurd rfl hw | cons c w => rfl
    simp (disch := first | omega | (simp only [hN] <;> omega) | fail) only [go_sem, simprocAttr, h0]
    refine fail_tok hp1 ?_
    rw [if_neg he, if_neg he]
    intro h2 hf2 hp2
    have hn2 := hf2.n; try simp only [hN] at hn2
    simp (disch := first | omega | (simp only [hN] <;> omega) | fail) only [go_sem, simprocAttr]
    exact hQ _ ⟨by first | omega | (simp only [hN]; omega), fun b hb hne => by (try simp only [hN] at hb hne); simp (disch := first | omega | (simp only [hN] <;> omega) | fail) only [go_sem, simprocAttr, hf2.old, hf1.old]⟩ hp2
def TokQ' (h : AHeap) (r E : Nat) (all : List Tok) (nx e q k : Nat) (P : AV → AHeap → Prop) : Prop :=
  if e = 0 then
    if (hdT E (all.drop nx)).kind = k then ∀ h', Fr r h h' → RInv h' r E all (nx + 1) 0 q → P (tokAV (hdT E (all.drop nx))) h'
    else ∀ h', Fr r h h' → RInv h' r E all nx 2 (hdT E (all.drop nx)).pos → P (.agg zT) h'
  else ∀ h', Fr r h h' → RInv h' r E all nx e q → P (.agg zT) h'
theorem token_tok {h : AHeap} {r E nx e q k : Nat} {all : List Tok} (hk : k ≠ 0) (hp : RInv h r E all nx e q) {Q : QR} (hQ : TokQ' h r E all nx e q k (fun v => Q (.ret v))) : WF F 96 [.ptr r 0, .int .i64 (k : Int)] h Q := by
  refine WF.code F96 rfl ?_
  have hlt := hp.hi
  simp (disch := first | omega | (simp only [hN] <;> omega) | fail) only [go_sem, simprocAttr]
  have hp1 : RInv (h.alloc (.cells .own 0 zT)) r E all nx e q := hp.fr ⟨by first | omega | (simp only [hN]; omega), fun b hb hne => by (try simp only [hN] at hb hne); simp (disch := first | omega | (simp only [hN] <;> omega) | fail) only [go_sem, simprocAttr]⟩
  refine kind_tok hp1 ?_
  unfold TokQ' at hQ
  by_cases he : e = 0
  · subst he
    rw [if_pos rfl] at hQ
    simp only [kindT, if_true]
    by_cases hi : (hdT E (all.drop nx)).kind = k
    · rw [if_pos hi] at hQ
      have hn : nx < all.length := drop_ne (hdT_ne (E := E) (by omega))
      obtain ⟨ver, b, vb, c, ex, t, ts, h1, hb, h2, hd, hr⟩ := hp.tok hn
      have g1 : decide ((nx : Int) < (all.length : Int)) = true := decide_eq_true (by omega)
      have g2 : ((nx : Int) + 1 - 1) = (nx : Int) := by omega
      have hsm := hp.small
      have hi2 : (((hdT E (all.drop nx)).kind : Int) != (k : Int)) = false := by simp; omega
      have d1 : decide (r = h.n) = false := decide_eq_false (by omega)
      have d2 : decide (b = h.n) = false := decide_eq_false (by omega)
      have d3 : decide (b = r) = false := decide_eq_false (by omega)
      rw [hd] at hQ hi2 ⊢
      simp (disch := first | omega | (simp only [hN] <;> omega) | fail) only [go_sem, simprocAttr, hi2, h1, h2, g1, g2, hr, Int.toNat_natCast, Nat.zero_add, tokAV, d1, d2, d3]
      refine hQ _ ⟨by first | omega | (simp only [hN]; omega), fun b hb hne => by (try simp only [hN] at hb hne); simp (disch := first | omega | (simp only [hN] <;> omega) | fail) only [go_sem, simprocAttr]⟩ (hp.step (ver' := ver + 1) ⟨by first | omega | (simp only [hN]; omega), fun b hb hne => by (try simp only [hN] at hb hne); simp (disch := first | omega | (simp only [hN] <;> omega) | fail) only [go_sem, simprocAttr]⟩ hn h1 (by (first | (simp (disch := first | omega | (simp only [hN] <;> omega) | fail) only [go_sem, simprocAttr]; done) | (simp (disch := first | omega | (simp only [hN] <;> omega) | fail) only [go_sem, simprocAttr]; rfl))))
    · rw [if_neg hi] at hQ
      have hi2 : (((hdT E (all.drop nx)).kind : Int) != (k : Int)) = true := by simp; omega
      simp (disch := first | omega | (simp only [hN] <;> omega) | fail) only [go_sem, simprocAttr, hi2]
      refine fail_tok hp1 ?_
      intro h2 hf2 hp2
      have hn2 := hf2.n; try simp only [hN] at hn2
      simp (disch := first | omega | (simp only [hN] <;> omega) | fail) only [go_sem, simprocAttr, hf2.old]
      exact hQ _ ⟨by first | omega | (simp only [hN]; omega), fun b hb hne => by (try simp only [hN] at hb hne); simp (disch := first | omega | (simp only [hN] <;> omega) | fail) only [go_sem, simprocAttr, hf2.old]⟩ (hp2.fr' (q' := h.n) (Fr.upd _ _ _) hlt)
  · rw [if_neg he] at hQ
    have hi2 : ((kindT e E (all.drop nx) : Int) != (k : Int)) = true := by simp [kindT, he]; omega
    simp (disch := first | omega | (simp only [hN] <;> omega) | fail) only [go_sem, simprocAttr, hi2]
    refine fail_tok hp1 ?_
    rw [if_neg he, if_neg he]
    intro h2 hf2 hp2
    have hn2 := hf2.n; try simp only [hN] at hn2
    simp (disch := first | omega | (simp only [hN] <;> omega) | fail) only [go_sem, simprocAttr, hf2.old]
    exact hQ _ ⟨by first | omega | (simp only [hN]; omega), fun b hb hne => by (try simp only [hN] at hb hne); simp (disch := first | omega | (simp only [hN] <;> omega) | fail) only [go_sem, simprocAttr, hf2.old]⟩ (hp2.fr' (q' := h.n) (Fr.upd _ _ _) hlt)
def LevQ (h : AHeap) (r E : Nat) (all : List Tok) (nx e q lv : Nat) (w : Bs) (P : AHeap → Prop) : Prop :=
  if e = 0 then
    if isT [w] (all.drop nx) = true then
      if lv = 16 then ∀ h', Fr r h h' → RInv h' r E all nx 3 (hdT E (all.drop nx)).pos → P h'
      else ∀ h', Fr r h h' → RInv h' r E all (nx + 1) 0 q → P h'
    else ∀ h', Fr r h h' → RInv h' r E all nx 2 (hdT E (all.drop nx)).pos → P h'
  else ∀ h', Fr r h h' → RInv h' r E all nx e q → P h'
theorem level_tok {h : AHeap} {r E nx e q lv : Nat} {all : List Tok} {w : Bs} (hw : w ≠ []) (hlv : lv ≤ 16) (hp : RInv h r E all nx e q) {Q : QR} (hQ : LevQ h r E all nx e q lv w (Q (.ret (.tuple [])))) : WF F 93 [.ptr r 0, .str w, .int .i64 (lv : Int)] h Q := by
  refine WF.code F93 rfl ?_
  have hlt := hp.hi
  simp (disch := first | omega | (simp only [hN] <;> omega) | fail) only [go_sem, simprocAttr]
  refine sees_tok hp ?_
  intro h1 hf1
  have hn1 := hf1.n; try simp only [hN] at hn1
  have hp1 := hp.fr hf1
  unfold LevQ at hQ
  by_cases he : e = 0
  · subst he
    rw [if_pos rfl] at hQ
    have hs := seesT_is hw (ts := all.drop nx)
    generalize seesT 0 (all.drop nx) = S at hs
    by_cases hi : isT [w] (all.drop nx) = true
    · rw [if_pos hi] at hQ
      rw [hi] at hs
      by_cases h16 : lv = 16
      · subst h16
        rw [if_pos rfl] at hQ
        have g1 : decide (((16 : Nat) : Int) ≥ 16) = true := rfl
        simp (disch := first | omega | (simp only [hN] <;> omega) | fail) only [go_sem, simprocAttr, hs, g1]
        refine fail_tok (k := 3) hp1 ?_
        intro h2 hf2 hp2
        have hn2 := hf2.n; try simp only [hN] at hn2
        simp (disch := first | omega | (simp only [hN] <;> omega) | fail) only [go_sem, simprocAttr]
        exact hQ _ ⟨by first | omega | (simp only [hN]; omega), fun b hb hne => by (try simp only [hN] at hb hne); simp (disch := first | omega | (simp only [hN] <;> omega) | fail) only [go_sem, simprocAttr, hf2.old, hf1.old]⟩ hp2
      · rw [if_neg h16] at hQ
        have g1 : decide ((lv : Int) ≥ 16) = false := decide_eq_false (by omega)
        simp (disch := first | omega | (simp only [hN] <;> omega) | fail) only [go_sem, simprocAttr, hs, g1]
        refine eat_tok hw hp1 ?_
        unfold EatQ
        rw [if_pos rfl, if_pos hi]
        intro h2 hf2 hp2
        have hn2 := hf2.n; try simp only [hN] at hn2
        simp (disch := first | omega | (simp only [hN] <;> omega) | fail) only [go_sem, simprocAttr]
        exact hQ _ ⟨by first | omega | (simp only [hN]; omega), fun b hb hne => by (try simp only [hN] at hb hne); simp (disch := first | omega | (simp only [hN] <;> omega) | fail) only [go_sem, simprocAttr, hf2.old, hf1.old]⟩ hp2
    · rw [if_neg hi] at hQ
      have hi' : isT [w] (all.drop nx) = false := by simpa using hi
      rw [hi'] at hs
      simp (disch := first | omega | (simp only [hN] <;> omega) | fail) only [go_sem, simprocAttr, hs]
      refine eat_tok hw hp1 ?_
      unfold EatQ
      rw [if_pos rfl, if_neg hi]
      intro h2 hf2 hp2
      have hn2 := hf2.n; try simp only [hN] at hn2
      simp (disch := first | omega | (simp only [hN] <;> omega) | fail) only [go_sem, simprocAttr]
      exact hQ _ ⟨by first | omega | (simp only [hN]; omega), fun b hb hne => by (try simp only [hN] at hb hne); simp (disch := first | omega | (simp only [hN] <;> omega) | fail) only [go_sem, simprocAttr, hf2.old, hf1.old]⟩ hp2
  · rw [if_neg he] at hQ
    have hs : seesT e (all.drop nx) = [] := by simp [seesT, he]
    rw [hs]
    have h0 : (([] : Bs) == w) = false := by cases w with | nil => exact absurd rfl hw | cons c w => rfl
    simp (disch := first | omega | (simp only [hN] <;> omega) | fail) only [go_sem, simprocAttr, h0]
    refine eat_tok hw hp1 ?_
    unfold EatQ
    rw [if_neg he]
    intro h2 hf2 hp2
    have hn2 := hf2.n; try simp only [hN] at hn2
    simp (disch := first | omega | (simp only [hN] <;> omega) | fail) only [go_sem, simprocAttr]
    exact hQ _ ⟨by first | omega | (simp only [hN]; omega), fun b hb hne => by (try simp only [hN] at hb hne); simp (disch := first | omega | (simp only [hN] <;> omega) | fail) only [go_sem, simprocAttr, hf2.old, hf1.old]⟩ hp2
def rankT (s : Bs) : Nat :=
  if s = [124, 124] then 1 else if s = [38, 38] then 2 else if s = [61, 61] ∨ s = [33, 61] ∨ s = [60] ∨ s = [60, 61] ∨ s = [62] ∨ s = [62, 61] then 3
  else if s = [43] ∨ s = [45] then 4 else if s = [42] ∨ s = [47] ∨ s = [37] then 5 else 0
theorem rank_tok {s : Bs} {h : AHeap} {Q : QR} (hQ : Q (.ret (.int .i64 (rankT s : Int))) h) : WF F 70 [.str s] h Q := by
  refine WF.code F70 rfl ?_
  simp (disch := first | omega | (simp only [hN] <;> omega) | fail) only [go_sem, simprocAttr]
  (first | refine kA (fun k0 => ?_) (fun k0 => ?_) | refine kB (fun k0 => ?_) (fun k0 => ?_) | refine kC (fun k0 => ?_) (fun k0 => ?_) | refine kD (fun k0 => ?_) (fun k0 => ?_) | refine kE (fun k0 => ?_) (fun k0 => ?_) | refine kF (fun k0 => ?_) (fun k0 => ?_))
  · have : s = [124, 124] := by simpa using k0
    subst this
    simp (disch := first | omega | (simp only [hN] <;> omega) | fail) only [go_sem, simprocAttr]
    exact hQ
  simp (disch := first | omega | (simp only [hN] <;> omega) | fail) only [go_sem, simprocAttr]
  (first | refine kA (fun k1 => ?_) (fun k1 => ?_) | refine kB (fun k1 => ?_) (fun k1 => ?_) | refine kC (fun k1 => ?_) (fun k1 => ?_) | refine kD (fun k1 => ?_) (fun k1 => ?_) | refine kE (fun k1 => ?_) (fun k1 => ?_) | refine kF (fun k1 => ?_) (fun k1 => ?_))
  · have : s = [38, 38] := by simpa using k1
    subst this
    simp (disch := first | omega | (simp only [hN] <;> omega) | fail) only [go_sem, simprocAttr]
    exact hQ
  simp (disch := first | omega | (simp only [hN] <;> omega) | fail) only [go_sem, simprocAttr]
  (first | refine kA (fun k2 => ?_) (fun k2 => ?_) | refine kB (fun k2 => ?_) (fun k2 => ?_) | refine kC (fun k2 => ?_) (fun k2 => ?_) | refine kD (fun k2 => ?_) (fun k2 => ?_) | refine kE (fun k2 => ?_) (fun k2 => ?_) | refine kF (fun k2 => ?_) (fun k2 => ?_))
  · have : s = [61, 61] := by simpa using k2
    subst this
    simp (disch := first | omega | (simp only [hN] <;> omega) | fail) only [go_sem, simprocAttr]
    exact hQ
  simp (disch := first | omega | (simp only [hN] <;> omega) | fail) only [go_sem, simprocAttr]
  (first | refine kA (fun k3 => ?_) (fun k3 => ?_) | refine kB (fun k3 => ?_) (fun k3 => ?_) | refine kC (fun k3 => ?_) (fun k3 => ?_) | refine kD (fun k3 => ?_) (fun k3 => ?_) | refine kE (fun k3 => ?_) (fun k3 => ?_) | refine kF (fun k3 => ?_) (fun k3 => ?_))
  · have : s = [33, 61] := by simpa using k3
    subst this
    simp (disch := first | omega | (simp only [hN] <;> omega) | fail) only [go_sem, simprocAttr]
    exact hQ
  simp (disch := first | omega | (simp only [hN] <;> omega) | fail) only [go_sem, simprocAttr]
  (first | refine kA (fun k4 => ?_) (fun k4 => ?_) | refine kB (fun k4 => ?_) (fun k4 => ?_) | refine kC (fun k4 => ?_) (fun k4 => ?_) | refine kD (fun k4 => ?_) (fun k4 => ?_) | refine kE (fun k4 => ?_) (fun k4 => ?_) | refine kF (fun k4 => ?_) (fun k4 => ?_))
  · have : s = [60] := by simpa using k4
    subst this
    simp (disch := first | omega | (simp only [hN] <;> omega) | fail) only [go_sem, simprocAttr]
    exact hQ
  simp (disch := first | omega | (simp only [hN] <;> omega) | fail) only [go_sem, simprocAttr]
  (first | refine kA (fun k5 => ?_) (fun k5 => ?_) | refine kB (fun k5 => ?_) (fun k5 => ?_) | refine kC (fun k5 => ?_) (fun k5 => ?_) | refine kD (fun k5 => ?_) (fun k5 => ?_) | refine kE (fun k5 => ?_) (fun k5 => ?_) | refine kF (fun k5 => ?_) (fun k5 => ?_))
  · have : s = [60, 61] := by simpa using k5
    subst this
    simp (disch := first | omega | (simp only [hN] <;> omega) | fail) only [go_sem, simprocAttr]
    exact hQ
  simp (disch := first | omega | (simp only [hN] <;> omega) | fail) only [go_sem, simprocAttr]
  (first | refine kA (fun k6 => ?_) (fun k6 => ?_) | refine kB (fun k6 => ?_) (fun k6 => ?_) | refine kC (fun k6 => ?_) (fun k6 => ?_) | refine kD (fun k6 => ?_) (fun k6 => ?_) | refine kE (fun k6 => ?_) (fun k6 => ?_) | refine kF (fun k6 => ?_) (fun k6 => ?_))
  · have : s = [62] := by simpa using k6
    subst this
    simp (disch := first | omega | (simp only [hN] <;> omega) | fail) only [go_sem, simprocAttr]
    exact hQ
  simp (disch := first | omega | (simp only [hN] <;> omega) | fail) only [go_sem, simprocAttr]
  (first | refine kA (fun k7 => ?_) (fun k7 => ?_) | refine kB (fun k7 => ?_) (fun k7 => ?_) | refine kC (fun k7 => ?_) (fun k7 => ?_) | refine kD (fun k7 => ?_) (fun k7 => ?_) | refine kE (fun k7 => ?_) (fun k7 => ?_) | refine kF (fun k7 => ?_) (fun k7 => ?_))
  · have : s = [62, 61] := by simpa using k7
    subst this
    simp (disch := first | omega | (simp only [hN] <;> omega) | fail) only [go_sem, simprocAttr]
    exact hQ
  simp (disch := first | omega | (simp only [hN] <;> omega) | fail) only [go_sem, simprocAttr]
  (first | refine kA (fun k8 => ?_) (fun k8 => ?_) | refine kB (fun k8 => ?_) (fun k8 => ?_) | refine kC (fun k8 => ?_) (fun k8 => ?_) | refine kD (fun k8 => ?_) (fun k8 => ?_) | refine kE (fun k8 => ?_) (fun k8 => ?_) | refine kF (fun k8 => ?_) (fun k8 => ?_))
  · have : s = [43] := by simpa using k8
    subst this
    simp (disch := first | omega | (simp only [hN] <;> omega) | fail) only [go_sem, simprocAttr]
    exact hQ
  simp (disch := first | omega | (simp only [hN] <;> omega) | fail) only [go_sem, simprocAttr]
  (first | refine kA (fun k9 => ?_) (fun k9 => ?_) | refine kB (fun k9 => ?_) (fun k9 => ?_) | refine kC (fun k9 => ?_) (fun k9 => ?_) | refine kD (fun k9 => ?_) (fun k9 => ?_) | refine kE (fun k9 => ?_) (fun k9 => ?_) | refine kF (fun k9 => ?_) (fun k9 => ?_))
  · have : s = [45] := by simpa using k9
    subst this
    simp (disch := first | omega | (simp only [hN] <;> omega) | fail) only [go_sem, simprocAttr]
    exact hQ
  simp (disch := first | omega | (simp only [hN] <;> omega) | fail) only [go_sem, simprocAttr]
  (first | refine kA (fun k10 => ?_) (fun k10 => ?_) | refine kB (fun k10 => ?_) (fun k10 => ?_) | refine kC (fun k10 => ?_) (fun k10 => ?_) | refine kD (fun k10 => ?_) (fun k10 => ?_) | refine kE (fun k10 => ?_) (fun k10 => ?_) | refine kF (fun k10 => ?_) (fun k10 => ?_))
  · have : s = [42] := by simpa using k10
    subst this
    simp (disch := first | omega | (simp only [hN] <;> omega) | fail) only [go_sem, simprocAttr]
    exact hQ
  simp (disch := first | omega | (simp only [hN] <;> omega) | fail) only [go_sem, simprocAttr]
  (first | refine kA (fun k11 => ?_) (fun k11 => ?_) | refine kB (fun k11 => ?_) (fun k11 => ?_) | refine kC (fun k11 => ?_) (fun k11 => ?_) | refine kD (fun k11 => ?_) (fun k11 => ?_) | refine kE (fun k11 => ?_) (fun k11 => ?_) | refine kF (fun k11 => ?_) (fun k11 => ?_))
  · have : s = [47] := by simpa using k11
    subst this
    simp (disch := first | omega | (simp only [hN] <;> omega) | fail) only [go_sem, simprocAttr]
    exact hQ
  simp (disch := first | omega | (simp only [hN] <;> omega) | fail) only [go_sem, simprocAttr]
  (first | refine kA (fun k12 => ?_) (fun k12 => ?_) | refine kB (fun k12 => ?_) (fun k12 => ?_) | refine kC (fun k12 => ?_) (fun k12 => ?_) | refine kD (fun k12 => ?_) (fun k12 => ?_) | refine kE (fun k12 => ?_) (fun k12 => ?_) | refine kF (fun k12 => ?_) (fun k12 => ?_))
  · have : s = [37] := by simpa using k12
    subst this
    simp (disch := first | omega | (simp only [hN] <;> omega) | fail) only [go_sem, simprocAttr]
    exact hQ
  simp (disch := first | omega | (simp only [hN] <;> omega) | fail) only [go_sem, simprocAttr]
  have : rankT s = 0 := by simp at *; simp [rankT, *]
  rw [this] at hQ
  exact hQ
def opsR (k : Nat) : List Bs := if k = 1 then [[124, 124]] else if k = 2 then [[38, 38]] else if k = 3 then [[61, 61], [33, 61], [60], [60, 61], [62], [62, 61]] else if k = 4 then [[43], [45]] else [[42], [47], [37]]
theorem rank_is {k : Nat} (h1 : 1 ≤ k) (h5 : k ≤ 5) {ts : List Tok} : (rankT (seesT 0 ts) = k) ↔ isT (opsR k) ts = true := by
  have hr : ∀ s : Bs, rankT s = k ↔ (opsR k).contains s = true := by
    intro s
    have hk : k = 1 ∨ k = 2 ∨ k = 3 ∨ k = 4 ∨ k = 5 := by omega
    unfold rankT
    by_cases c1 : s = [124, 124]
    · subst c1; rcases hk with rfl | rfl | rfl | rfl | rfl <;> decide
    by_cases c2 : s = [38, 38]
    · subst c2; rcases hk with rfl | rfl | rfl | rfl | rfl <;> decide
    rw [if_neg c1, if_neg c2]
    by_cases c3 : s = [61, 61] ∨ s = [33, 61] ∨ s = [60] ∨ s = [60, 61] ∨ s = [62] ∨ s = [62, 61]
    · rw [if_pos c3]
      rcases c3 with rfl | rfl | rfl | rfl | rfl | rfl <;> (rcases hk with rfl | rfl | rfl | rfl | rfl <;> decide)
    rw [if_neg c3]
    by_cases c4 : s = [43] ∨ s = [45]
    · rw [if_pos c4]
      rcases c4 with rfl | rfl <;> (rcases hk with rfl | rfl | rfl | rfl | rfl <;> decide)
    rw [if_neg c4]
    by_cases c5 : s = [42] ∨ s = [47] ∨ s = [37]
    · rw [if_pos c5]
      rcases c5 with rfl | rfl | rfl <;> (rcases hk with rfl | rfl | rfl | rfl | rfl <;> decide)
    rw [if_neg c5]
    simp only [not_or] at c3 c4 c5
    refine ⟨fun e => by omega, fun e => ?_⟩
    exfalso
    rcases hk with rfl | rfl | rfl | rfl | rfl <;> simp [opsR, c1, c2, c3, c4, c5] at e
  rw [hr]
  cases ts with
  | nil =>
    have : (opsR k).contains (seesT 0 []) = false := by
      have hk : k = 1 ∨ k = 2 ∨ k = 3 ∨ k = 4 ∨ k = 5 := by omega
      rcases hk with rfl | rfl | rfl | rfl | rfl <;> rfl
    rw [this]; simp [isT]
  | cons t ts =>
    simp only [seesT, isT, if_true]
    by_cases hk : t.kind = 2 ∨ t.kind = 5
    · rw [if_pos hk]
      have : (decide (t.kind = 2) || decide (t.kind = 5)) = true := by simpa using hk
      rw [this, Bool.true_and]
    · rw [if_neg hk]
      have : (decide (t.kind = 2) || decide (t.kind = 5)) = false := by simpa using hk
      rw [this, Bool.false_and]
      have h0 : (opsR k).contains [] = false := by
        have hk : k = 1 ∨ k = 2 ∨ k = 3 ∨ k = 4 ∨ k = 5 := by omega
        rcases hk with rfl | rfl | rfl | rfl | rfl <;> rfl
      rw [h0]
end Go.Ev
