/- The tree's reader: its small functions. -/
import Derived.Test.YtccenddkgeglmaaDoorSK4
import Derived.Test.YtccenddkgeglmaaDoorPuA
set_option linter.all false
set_option linter.unusedVariables false
set_option linter.unusedSimpArgs false
namespace Go.Ev
open Go
set_option maxRecDepth 100000
set_option maxHeartbeats 4000000

def ndC (n : Nd) (kv : AV) : List AV := [.int .i64 n.kind, .int .i64 n.pos, .str n.name, .int .i64 n.typ, .int .i64 n.n, .int .i64 n.size, .int .i64 n.obj, .int .u64 n.bits, kv]
mutual
/-- A node's kids in memory. -/
inductive KidsR (lo : Nat) (h : AHeap) : List Nd → AV → Prop where
  | nil : KidsR lo h [] .nilSlice
  | emp {b o c : Nat} {ex : Bool} : KidsR lo h [] (.slice b o 0 c ex)
  | row {ns : List Nd} {b ver o c : Nat} {md : Md} {ex : Bool} {bs css : List AV} : ns ≠ [] → ns.length < 2 ^ 61 → lo ≤ b → b < h.n → h.get b = some ⟨ver, .cells md 9 bs⟩ → Go.Ev.row bs o (ns.length * 9) = some css → RowsR lo h ns css → KidsR lo h ns (.slice b o ns.length c ex)
inductive RowsR (lo : Nat) (h : AHeap) : List Nd → List AV → Prop where
  | nil : RowsR lo h [] []
  | cons {n : Nd} {ns : List Nd} {kv : AV} {css : List AV} : KidsR lo h n.kids kv → RowsR lo h ns css → RowsR lo h (n :: ns) (ndC n kv ++ css)
end
theorem RowsR.len {lo : Nat} {h : AHeap} : {ns : List Nd} → {css : List AV} → RowsR lo h ns css → css.length = ns.length * 9
  | _, _, .nil => rfl
  | _, _, .cons _ r => by rw [List.length_append, r.len, List.length_cons]; simp [ndC]; omega
theorem row_mk {vs : List AV} {o n : Nat} (h : o + n ≤ vs.length) : row vs o n = some ((vs.drop o).take n) := by
  unfold row; rw [ble_nat, decide_eq_true h]; rfl
theorem row_inv {vs cs : List AV} {o n : Nat} (h : row vs o n = some cs) : o + n ≤ vs.length ∧ cs = (vs.drop o).take n := by
  unfold row at h
  rw [ble_nat] at h
  by_cases e : o + n ≤ vs.length
  · rw [decide_eq_true e] at h; exact ⟨e, (Option.some.inj h).symm⟩
  · rw [decide_eq_false e] at h; cases h
theorem row_len {vs cs : List AV} {o n : Nat} (h : row vs o n = some cs) : cs.length = n := by
  obtain ⟨h1, rfl⟩ := row_inv h
  rw [List.length_take, List.length_drop]; omega
theorem row_all {vs : List AV} {n : Nat} (h : vs.length = n) : row vs 0 n = some vs := by
  rw [row_mk (by omega), List.drop_zero, List.take_of_length_le (by omega)]
/-- A row of a row. -/
theorem row_sub {vs cs : List AV} {o n i k : Nat} (h : row vs o n = some cs) (hk : i + k ≤ n) : row vs (o + i) k = row cs i k := by
  have hl := row_len h
  obtain ⟨h1, rfl⟩ := row_inv h
  rw [row_mk (by omega), row_mk (by omega), List.drop_take, List.take_take, List.drop_drop, Nat.min_eq_left (by omega)]
theorem KidsR.own {lo b ver c : Nat} {md : Md} {h : AHeap} {ex : Bool} {ns : List Nd} {css : List AV} (hne : ns ≠ []) (hl : ns.length < 2 ^ 61) (hb : lo ≤ b) (hn : b < h.n) (hg : h.get b = some ⟨ver, .cells md 9 css⟩) (r : RowsR lo h ns css) : KidsR lo h ns (.slice b 0 ns.length c ex) :=
  .row hne hl hb hn hg (row_all r.len) r
mutual
theorem KidsR.keep9 {lo lo' : Nat} {h h' : AHeap} (hlo : lo' ≤ lo) (hn : h.n ≤ h'.n) (f : ∀ b ver md css, lo ≤ b → b < h.n → h.get b = some ⟨ver, .cells md 9 css⟩ → h'.get b = h.get b) : {ns : List Nd} → {v : AV} → KidsR lo h ns v → KidsR lo' h' ns v
  | _, _, .nil => .nil
  | _, _, .emp => .emp
  | _, _, .row h1 h0 h2 h3 h4 h5 h6 => .row h1 h0 (Nat.le_trans hlo h2) (Nat.lt_of_lt_of_le h3 hn) ((f _ _ _ _ h2 h3 h4).trans h4) h5 (RowsR.keep9 hlo hn f h6)
theorem RowsR.keep9 {lo lo' : Nat} {h h' : AHeap} (hlo : lo' ≤ lo) (hn : h.n ≤ h'.n) (f : ∀ b ver md css, lo ≤ b → b < h.n → h.get b = some ⟨ver, .cells md 9 css⟩ → h'.get b = h.get b) : {ns : List Nd} → {v : List AV} → RowsR lo h ns v → RowsR lo' h' ns v
  | _, _, .nil => .nil
  | _, _, .cons h1 h2 => .cons (KidsR.keep9 hlo hn f h1) (RowsR.keep9 hlo hn f h2)
end
theorem KidsR.keep {lo lo' : Nat} {h h' : AHeap} (hlo : lo' ≤ lo) (hn : h.n ≤ h'.n) (f : ∀ b, lo ≤ b → b < h.n → h'.get b = h.get b) {ns : List Nd} {v : AV} (k : KidsR lo h ns v) : KidsR lo' h' ns v := k.keep9 hlo hn fun b _ _ _ h1 h2 _ => f b h1 h2
theorem RowsR.keep {lo lo' : Nat} {h h' : AHeap} (hlo : lo' ≤ lo) (hn : h.n ≤ h'.n) (f : ∀ b, lo ≤ b → b < h.n → h'.get b = h.get b) {ns : List Nd} {v : List AV} (k : RowsR lo h ns v) : RowsR lo' h' ns v := k.keep9 hlo hn fun b _ _ _ h1 h2 _ => f b h1 h2
theorem KidsR.flat {lo : Nat} {h : AHeap} {ns : List Nd} {v : AV} (k : KidsR lo h ns v) : v.flat = true ∧ v.cells = [v] := by
  cases k <;> exact ⟨rfl, rfl⟩
theorem KidsR.fr {lo r : Nat} {h h' : AHeap} {ns : List Nd} {v : AV} (k : KidsR lo h ns v) (f : Fr r h h') (hr : r < lo ∨ h.n ≤ r) : KidsR lo h' ns v := k.keep (Nat.le_refl _) f.n fun b h1 h2 => f.old b h2 (by omega)
theorem KidsR.lo {lo lo' : Nat} {h : AHeap} {ns : List Nd} {v : AV} (k : KidsR lo h ns v) (hl : lo' ≤ lo) : KidsR lo' h ns v := k.keep hl (Nat.le_refl _) fun _ _ _ => rfl

/-- The tokens that are left, in memory. -/
def TokR (h : AHeap) (r : Nat) (ts : List Tok) (v : AV) : Prop :=
  (ts = [] ∧ v = .nilSlice) ∨ ∃ b ver k all, v = .slice b (k * 5) ts.length ts.length false ∧ b < r ∧ h.get b = some ⟨ver, .cells .own 5 (toksAV all)⟩ ∧ all.drop k = ts
structure PInv (h : AHeap) (r E : Nat) (ts : List Tok) (lv : Nat) : Prop where
  gh : GH h
  lo : 18 + 17 ≤ r
  hi : r < h.n
  lvl : lv ≤ 16
  st : ∃ ver v, h.get r = some ⟨ver, .cells .own 0 [v, .int .i64 (E : Int), .int .i64 (lv : Int)]⟩ ∧ TokR h r ts v
theorem TokR.fr {h h' : AHeap} {q r : Nat} {ts : List Tok} {v : AV} (t : TokR h r ts v) (f : Fr q h h') (hr : r < h.n) (hq : r ≤ q) : TokR h' r ts v := by
  rcases t with q | ⟨b, ver, k, all, h1, h2, h4, h5⟩
  · exact .inl q
  · exact .inr ⟨b, ver, k, all, h1, h2, by rw [f.old b (by omega) (by omega)]; exact h4, h5⟩
theorem TokR.flat {h : AHeap} {r : Nat} {ts : List Tok} {v : AV} (t : TokR h r ts v) : v.flat = true ∧ v.cells = [v] := by
  rcases t with ⟨_, rfl⟩ | ⟨b, ver, k, all, rfl, _⟩ <;> exact ⟨rfl, rfl⟩
theorem TokR.len {h : AHeap} {r : Nat} {ts : List Tok} {v : AV} (t : TokR h r ts v) : lenA v = some (ts.length : Int) := by
  rcases t with ⟨rfl, rfl⟩ | ⟨b, ver, k, all, rfl, _⟩ <;> rfl
theorem Fr.any {r q : Nat} {h h' : AHeap} (f : Fr r h h') (hr : h.n ≤ r) : Fr q h h' := ⟨f.n, fun b hb _ => f.old b hb (by omega)⟩
theorem PInv.fr' {h h' : AHeap} {q r E lv : Nat} {ts : List Tok} (p : PInv h r E ts lv) (f : Fr q h h') (hq : r < q) : PInv h' r E ts lv := by
  obtain ⟨ver, v, h1, h2⟩ := p.st
  exact ⟨f.gh (Nat.le_trans p.lo (Nat.le_of_lt hq)) p.gh, p.lo, Nat.lt_of_lt_of_le p.hi f.n, p.lvl, ver, v, by rw [f.old r p.hi (by omega)]; exact h1, h2.fr f p.hi (Nat.le_of_lt hq)⟩
theorem PInv.fr {h h' : AHeap} {r E lv : Nat} {ts : List Tok} (p : PInv h r E ts lv) (f : Fr h.n h h') : PInv h' r E ts lv := p.fr' f p.hi
theorem PInv.step {h h' : AHeap} {r E lv lv' ver : Nat} {ts ts' : List Tok} {v : AV} (p : PInv h r E ts lv) (f : Fr r h h') (hg : h'.get r = some ⟨ver, .cells .own 0 [v, .int .i64 (E : Int), .int .i64 (lv' : Int)]⟩) (t : TokR h r ts' v) (hv : lv' ≤ 16) : PInv h' r E ts' lv' :=
  ⟨f.gh p.lo p.gh, p.lo, Nat.lt_of_lt_of_le p.hi f.n, hv, ver, v, hg, t.fr f p.hi (Nat.le_refl _)⟩

def treeStop (e pos : Nat) : CRes := .pan (.iface 95 (.agg [errAV e, .int .i64 (pos : Int)]))

theorem here_tok {E r lv : Nat} {ts : List Tok} {h : AHeap} (hp : PInv h r E ts lv) {Q : QR} (hQ : ∀ h', Fr h.n h h' → Q (.ret (tokAV (hdT E ts))) h') : WF F 48 [.ptr r 0] h Q := by
  obtain ⟨ver, v, hr, ht⟩ := hp.st
  have hlt := hp.hi
  refine WF.code F48 rfl ?_
  simp (maxSteps := 9999999) (disch := first | omega | (simp only [hN] <;> omega) | fail) only [go_sem, simprocAttr, hr, ht.len]
  (first | refine condP_splitN (fun he => ?_) (fun he => ?_) | refine wantP_splitN (fun he => ?_) (fun he => ?_) | refine wantPD_splitN (fun he => ?_) (fun he => ?_) | refine condP_split (fun he => ?_) (fun he => ?_) | refine wantP_split (fun he => ?_) (fun he => ?_) | refine wantPD_split (fun he => ?_) (fun he => ?_))
  · have h0 : ts = [] := by
      have : (ts.length : Int) = 0 := by simpa using he
      exact List.length_eq_zero_iff.1 (by omega)
    subst h0
    simp (maxSteps := 9999999) (disch := first | omega | (simp only [hN] <;> omega) | fail) only [go_sem, simprocAttr, hr]
    exact hQ _ ⟨by (first | omega | (simp only [AHeap.alloc_n, AHeap.upd_n]; omega)), fun b hb hne => by (try simp only [AHeap.alloc_n, AHeap.upd_n] at hb hne); simp (maxSteps := 9999999) (disch := first | omega | (simp only [hN] <;> omega) | fail) only [go_sem, simprocAttr]⟩
  · rcases ht with ⟨rfl, rfl⟩ | ⟨b, ver2, k, all, rfl, hb, hc, hd⟩
    · simp at he
    cases ts with
    | nil => simp at he
    | cons t ts =>
      have hk : all[k]? = some t := by
        have := congrArg (fun l => l[0]?) hd
        simpa using this
      have hrow : row (toksAV all) (k * 5) 5 = some (tokAV t).cells := flat_row (f := fun t => (tokAV t).cells) (fun _ => rfl) hk
      have c1 : decide ((0 : Int) < ((ts.length + 1 : Nat) : Int)) = true := decide_eq_true (by omega)
      simp (maxSteps := 9999999) (disch := first | omega | (simp only [hN] <;> omega) | fail) only [go_sem, simprocAttr, hr, hc, hrow, c1, Nat.zero_mul, Nat.add_zero, tokAV]
      exact hQ _ ⟨by (first | omega | (simp only [AHeap.alloc_n, AHeap.upd_n]; omega)), fun b hb hne => by (try simp only [AHeap.alloc_n, AHeap.upd_n] at hb hne); simp (maxSteps := 9999999) (disch := first | omega | (simp only [hN] <;> omega) | fail) only [go_sem, simprocAttr]⟩
end Go.Ev
