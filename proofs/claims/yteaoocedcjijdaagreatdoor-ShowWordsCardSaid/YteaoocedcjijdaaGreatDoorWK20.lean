/- The tree's reader: its small functions. -/
import Derived.Test.YteaoocedcjijdaaGreatDoorWK1
import Derived.Test.YteaoocedcjijdaaGreatDoorPuA
set_option linter.all false
set_option linter.unusedVariables false
set_option linter.unusedSimpArgs false
namespace Go.Ev
open Go
set_option maxRecDepth 100000
set_option maxHeartbeats 4000000

def ndC (n : Nd) (kv : AV) : List AV := [.int .i64 n.kind, .int .i64 n.pos, .str n.name, .int .i64 n.typ, .int .i64 n.n, .int .i64 n.size, .int .i64 n.obj, .int .u64 n.bits, kv]
mutual
/-- A node's kids in memory, in blocks of which something holds. -/
inductive KidsS (S : Nat → Prop) (h : AHeap) : List Nd → AV → Prop where
  | nil : KidsS S h [] .nilSlice
  | emp {b o c : Nat} {ex : Bool} : KidsS S h [] (.slice b o 0 c ex)
  | row {ns : List Nd} {b ver o c : Nat} {md : Md} {ex : Bool} {bs css : List AV} : ns ≠ [] → ns.length < 2 ^ 61 → S b → b < h.n → h.get b = some ⟨ver, .cells md 9 bs⟩ → Go.Ev.row bs o (ns.length * 9) = some css → RowsS S h ns css → KidsS S h ns (.slice b o ns.length c ex)
inductive RowsS (S : Nat → Prop) (h : AHeap) : List Nd → List AV → Prop where
  | nil : RowsS S h [] []
  | cons {n : Nd} {ns : List Nd} {kv : AV} {css : List AV} : KidsS S h n.kids kv → RowsS S h ns css → RowsS S h (n :: ns) (ndC n kv ++ css)
end
abbrev KidsR (lo : Nat) (h : AHeap) (ns : List Nd) (v : AV) : Prop := KidsS (fun b => lo ≤ b) h ns v
abbrev RowsR (lo : Nat) (h : AHeap) (ns : List Nd) (css : List AV) : Prop := RowsS (fun b => lo ≤ b) h ns css
theorem RowsS.len {S : Nat → Prop} {h : AHeap} : {ns : List Nd} → {css : List AV} → RowsS S h ns css → css.length = ns.length * 9
  | _, _, .nil => rfl
  | _, _, .cons _ r => by rw [List.length_append, r.len, List.length_cons]; simp [ndC]; omega
theorem row_mk {vs : List AV} {o n : Nat} (h : o + n ≤ vs.length) : row vs o n = some ((vs.drop o).take n) := by
  unfold row; rw [ble_nat, decide_eq_true h]; rfl
theorem row_all {vs : List AV} {n : Nat} (h : vs.length = n) : row vs 0 n = some vs := by
  rw [row_mk (by omega), List.drop_zero, List.take_of_length_le (by omega)]
theorem KidsS.own {S : Nat → Prop} {b ver c : Nat} {md : Md} {h : AHeap} {ex : Bool} {ns : List Nd} {css : List AV} (hne : ns ≠ []) (hl : ns.length < 2 ^ 61) (hb : S b) (hn : b < h.n) (hg : h.get b = some ⟨ver, .cells md 9 css⟩) (r : RowsS S h ns css) : KidsS S h ns (.slice b 0 ns.length c ex) :=
  .row hne hl hb hn hg (row_all r.len) r
mutual
theorem KidsS.keep9 {S S' : Nat → Prop} {h h' : AHeap} (hS : ∀ b, S b → b < h.n → S' b) (hn : h.n ≤ h'.n) (f : ∀ b ver md css, S b → b < h.n → h.get b = some ⟨ver, .cells md 9 css⟩ → h'.get b = h.get b) : {ns : List Nd} → {v : AV} → KidsS S h ns v → KidsS S' h' ns v
  | _, _, .nil => .nil
  | _, _, .emp => .emp
  | _, _, .row h1 h0 h2 h3 h4 h5 h6 => .row h1 h0 (hS _ h2 h3) (Nat.lt_of_lt_of_le h3 hn) ((f _ _ _ _ h2 h3 h4).trans h4) h5 (RowsS.keep9 hS hn f h6)
theorem RowsS.keep9 {S S' : Nat → Prop} {h h' : AHeap} (hS : ∀ b, S b → b < h.n → S' b) (hn : h.n ≤ h'.n) (f : ∀ b ver md css, S b → b < h.n → h.get b = some ⟨ver, .cells md 9 css⟩ → h'.get b = h.get b) : {ns : List Nd} → {v : List AV} → RowsS S h ns v → RowsS S' h' ns v
  | _, _, .nil => .nil
  | _, _, .cons h1 h2 => .cons (KidsS.keep9 hS hn f h1) (RowsS.keep9 hS hn f h2)
end
theorem KidsR.keep9 {lo lo' : Nat} {h h' : AHeap} (hlo : lo' ≤ lo) (hn : h.n ≤ h'.n) (f : ∀ b ver md css, lo ≤ b → b < h.n → h.get b = some ⟨ver, .cells md 9 css⟩ → h'.get b = h.get b) {ns : List Nd} {v : AV} (k : KidsR lo h ns v) : KidsR lo' h' ns v := KidsS.keep9 (fun _ hb _ => Nat.le_trans hlo hb) hn f k
theorem RowsR.keep9 {lo lo' : Nat} {h h' : AHeap} (hlo : lo' ≤ lo) (hn : h.n ≤ h'.n) (f : ∀ b ver md css, lo ≤ b → b < h.n → h.get b = some ⟨ver, .cells md 9 css⟩ → h'.get b = h.get b) {ns : List Nd} {v : List AV} (k : RowsR lo h ns v) : RowsR lo' h' ns v := RowsS.keep9 (fun _ hb _ => Nat.le_trans hlo hb) hn f k
theorem KidsR.keep {lo lo' : Nat} {h h' : AHeap} (hlo : lo' ≤ lo) (hn : h.n ≤ h'.n) (f : ∀ b, lo ≤ b → b < h.n → h'.get b = h.get b) {ns : List Nd} {v : AV} (k : KidsR lo h ns v) : KidsR lo' h' ns v := k.keep9 hlo hn fun b _ _ _ h1 h2 _ => f b h1 h2
theorem RowsR.keep {lo lo' : Nat} {h h' : AHeap} (hlo : lo' ≤ lo) (hn : h.n ≤ h'.n) (f : ∀ b, lo ≤ b → b < h.n → h'.get b = h.get b) {ns : List Nd} {v : List AV} (k : RowsR lo h ns v) : RowsR lo' h' ns v := k.keep9 hlo hn fun b _ _ _ h1 h2 _ => f b h1 h2
theorem KidsR.flat {lo : Nat} {h : AHeap} {ns : List Nd} {v : AV} (k : KidsR lo h ns v) : v.flat = true ∧ v.cells = [v] := by
  cases k <;> exact ⟨rfl, rfl⟩
theorem KidsR.fr {lo r : Nat} {h h' : AHeap} {ns : List Nd} {v : AV} (k : KidsR lo h ns v) (f : Fr r h h') (hr : r < lo ∨ h.n ≤ r) : KidsR lo h' ns v := k.keep (Nat.le_refl _) f.n fun b h1 h2 => f.old b h2 (by omega)
theorem KidsR.lo {lo lo' : Nat} {h : AHeap} {ns : List Nd} {v : AV} (k : KidsR lo h ns v) (hl : lo' ≤ lo) : KidsR lo' h ns v := k.keep hl (Nat.le_refl _) fun _ _ _ => rfl

/-- The tokens that are left, in memory. -/
def TokR (h : AHeap) (r : Nat) (ts : List Tok) (v : AV) : Prop :=
  (ts = [] ∧ v = .nilSlice) ∨ ∃ b ver k all, v = .slice b (k * 5) ts.length ts.length false ∧ b < r ∧ h.get b = some ⟨ver, .cells .own 5 (toksAV all)⟩ ∧ all.drop k = ts
structure PInv (h : AHeap) (r E : Nat) (ts : List Tok) (lv : Nat) : Prop where
  gh : GH h
  lo : 21 + 17 ≤ r
  hi : r < h.n
  lvl : lv ≤ 16
  st : ∃ ver v, h.get r = some ⟨ver, .cells .own 0 [v, .int .i64 (E : Int), .int .i64 (lv : Int)]⟩ ∧ TokR h r ts v
theorem TokR.fr {h h' : AHeap} {q r : Nat} {ts : List Tok} {v : AV} (t : TokR h r ts v) (f : Fr q h h') (hr : r < h.n) (hq : r ≤ q) : TokR h' r ts v := by
  rcases t with q | ⟨b, ver, k, all, h1, h2, h4, h5⟩
  · exact .inl q
  · exact .inr ⟨b, ver, k, all, h1, h2, by rw [f.old b (by omega) (by omega)]; exact h4, h5⟩
theorem TokR.flat {h : AHeap} {r : Nat} {ts : List Tok} {v : AV} (t : TokR h r ts v) : v.flat = true ∧ v.cells = [v] := by
  rcases t with ⟨_, rfl⟩ | ⟨b, ver, k, all, rfl, _⟩ <;> exact ⟨rfl, rfl⟩
theorem TokR.len {h : AHeap} {r : Nat} {ts : List Tok} {v : AV} (t : TokR h r ts v) : lenA v = some (ts.length : Int) := by
  rcases t with ⟨rfl, rfl⟩ | ⟨b, ver, k, all, rfl, _⟩ <;> rfl
theorem Fr.any {r q : Nat} {h h' : AHeap} (f : Fr r h h') (hr : h.n ≤ r) : Fr q h h' := ⟨f.n, fun b hb _ => f.old b hb (by omega)⟩
theorem PInv.fr' {h h' : AHeap} {q r E lv : Nat} {ts : List Tok} (p : PInv h r E ts lv) (f : Fr q h h') (hq : r < q) : PInv h' r E ts lv := by
  obtain ⟨ver, v, h1, h2⟩ := p.st
  exact ⟨f.gh (Nat.le_trans p.lo (Nat.le_of_lt hq)) p.gh, p.lo, Nat.lt_of_lt_of_le p.hi f.n, p.lvl, ver, v, by rw [f.old r p.hi (by omega)]; exact h1, h2.fr f p.hi (Nat.le_of_lt hq)⟩
theorem PInv.fr {h h' : AHeap} {r E lv : Nat} {ts : List Tok} (p : PInv h r E ts lv) (f : Fr h.n h h') : PInv h' r E ts lv := p.fr' f p.hi
theorem PInv.step {h h' : AHeap} {r E lv lv' ver : Nat} {ts ts' : List Tok} {v : AV} (p : PInv h r E ts lv) (f : Fr r h h') (hg : h'.get r = some ⟨ver, .cells .own 0 [v, .int .i64 (E : Int), .int .i64 (lv' : Int)]⟩) (t : TokR h r ts' v) (hv : lv' ≤ 16) : PInv h' r E ts' lv' :=
  ⟨f.gh p.lo p.gh, p.lo, Nat.lt_of_lt_of_le p.hi f.n, hv, ver, v, hg, t.fr f p.hi (Nat.le_refl _)⟩

end Go.Ev
/- The form of trees: what is asked of a node's fields and of names. -/
namespace Go.Ev
open Go
set_option maxRecDepth 100000
set_option maxHeartbeats 4000000

theorem Fr.all {h h' : AHeap} (f : Fr h.n h h') {b : Nat} (hb : b < h.n) : h'.get b = h.get b := f.old b hb (by omega)
theorem Sl.block {es lo n : Nat} {h : AHeap} {v : AV} {cs : List AV} (s : Sl es lo h v n cs) (hn : 0 < n) : ∃ b ver, v = .slice b 0 n n false ∧ lo ≤ b ∧ b < h.n ∧ h.get b = some ⟨ver, .cells .own es cs⟩ := by
  obtain ⟨_, ⟨rfl, _⟩ | ⟨_, h⟩⟩ := s
  · omega
  · exact h
def formStop : CRes := .pan (.iface 145 (.agg []))
/-- What is asked: it holds, or the asking ends. -/
def AskQ (h : AHeap) (Q : QR) (b : Bool) : Prop := ∀ h', Fr h.n h h' → (b = true → Q (.ret undefA) h') ∧ (b = false → Q formStop h')
theorem AskQ.mono {h h1 : AHeap} {Q : QR} {b : Bool} (q : AskQ h Q b) (f : Fr h.n h h1) (hn : h.n ≤ h1.n) : AskQ h1 Q b := fun h' f' => q h' (f.trans ⟨f'.n, fun b hb hne => f'.old b (by omega) (by omega)⟩)

theorem need_spec {b : Bool} {h : AHeap} {Q : QR} (hQ : AskQ h Q b) : WF F 94 [.agg [], .bool b] h Q := by
  refine WF.code F94 rfl ?_
  simp (disch := first | omega | (simp only [hN] <;> omega) | fail) only [go_sem, simprocAttr]
  cases b with
  | true =>
    simp (disch := first | omega | (simp only [hN] <;> omega) | fail) only [go_sem, simprocAttr]
    exact (hQ _ ⟨by first | omega | (simp only [hN]; omega), fun b hb hne => by (try simp only [hN] at hb hne); simp (disch := first | omega | (simp only [hN] <;> omega) | fail) only [go_sem, simprocAttr]⟩).1 rfl
  | false =>
    simp (disch := first | omega | (simp only [hN] <;> omega) | fail) only [go_sem, simprocAttr]
    exact (hQ _ ⟨by first | omega | (simp only [hN]; omega), fun b hb hne => by (try simp only [hN] at hb hne); simp (disch := first | omega | (simp only [hN] <;> omega) | fail) only [go_sem, simprocAttr]⟩).2 rfl

theorem bare_spec {n : Nd} {kv : AV} {nm : Bs} {t k bits kd ps : Int} {h : AHeap} {Q : QR} (hkf : kv.flat = true) (hkc : kv.cells = [kv]) (hQ : AskQ h Q (bareB n nm t k bits)) :
    WF F 95 [.agg [], .agg (ndC n kv), .agg [.int .i64 kd, .int .i64 ps, .str nm, .int .i64 t, .int .i64 k, .int .i64 0, .int .i64 0, .int .u64 bits, .nilSlice]] h Q := by
  obtain ⟨nk, np, nn, nt, nc, nz, no, nb, nks⟩ := n
  refine WF.code F95 rfl ?_
  simp (disch := first | omega | (simp only [hN] <;> omega) | fail) only [go_sem, simprocAttr, ndC, hkf, hkc, Nd.kind, Nd.pos, Nd.name, Nd.typ, Nd.n, Nd.size, Nd.obj, Nd.bits]
  have hq : ∀ b h1, Fr h.n h h1 → bareB (Nd.mk nk np nn nt nc nz no nb nks) nm t k bits = b → (b = true → Q (.ret undefA) h1) ∧ (b = false → Q formStop h1) := fun b h1 f e => e ▸ hQ h1 f
  simp only [bareB, Nd.name, Nd.typ, Nd.n, Nd.size, Nd.obj, Nd.bits] at hq
  clear hQ
  refine ⟨by simp, ?_⟩
  (first | refine kA (fun e1 => ?_) (fun e1 => ?_) | refine kB (fun e1 => ?_) (fun e1 => ?_) | refine kC (fun e1 => ?_) (fun e1 => ?_) | refine kD (fun e1 => ?_) (fun e1 => ?_) | refine kE (fun e1 => ?_) (fun e1 => ?_) | refine kF (fun e1 => ?_) (fun e1 => ?_)) <;> simp (disch := first | omega | (simp only [hN] <;> omega) | fail) only [go_sem, simprocAttr, e1]
  · (first | refine kA (fun e2 => ?_) (fun e2 => ?_) | refine kB (fun e2 => ?_) (fun e2 => ?_) | refine kC (fun e2 => ?_) (fun e2 => ?_) | refine kD (fun e2 => ?_) (fun e2 => ?_) | refine kE (fun e2 => ?_) (fun e2 => ?_) | refine kF (fun e2 => ?_) (fun e2 => ?_)) <;> simp (disch := first | omega | (simp only [hN] <;> omega) | fail) only [go_sem, simprocAttr, e2]
    · (first | refine kA (fun e3 => ?_) (fun e3 => ?_) | refine kB (fun e3 => ?_) (fun e3 => ?_) | refine kC (fun e3 => ?_) (fun e3 => ?_) | refine kD (fun e3 => ?_) (fun e3 => ?_) | refine kE (fun e3 => ?_) (fun e3 => ?_) | refine kF (fun e3 => ?_) (fun e3 => ?_)) <;> simp (disch := first | omega | (simp only [hN] <;> omega) | fail) only [go_sem, simprocAttr, e3]
      · (first | refine kA (fun e4 => ?_) (fun e4 => ?_) | refine kB (fun e4 => ?_) (fun e4 => ?_) | refine kC (fun e4 => ?_) (fun e4 => ?_) | refine kD (fun e4 => ?_) (fun e4 => ?_) | refine kE (fun e4 => ?_) (fun e4 => ?_) | refine kF (fun e4 => ?_) (fun e4 => ?_)) <;> simp (disch := first | omega | (simp only [hN] <;> omega) | fail) only [go_sem, simprocAttr, e4]
        · (first | refine kA (fun e5 => ?_) (fun e5 => ?_) | refine kB (fun e5 => ?_) (fun e5 => ?_) | refine kC (fun e5 => ?_) (fun e5 => ?_) | refine kD (fun e5 => ?_) (fun e5 => ?_) | refine kE (fun e5 => ?_) (fun e5 => ?_) | refine kF (fun e5 => ?_) (fun e5 => ?_)) <;> simp (disch := first | omega | (simp only [hN] <;> omega) | fail) only [go_sem, simprocAttr, e5]
          · refine need_spec fun h' f => ?_
            have hn := f.n; try simp only [hN] at hn
            have := hq (nb == bits) h' ⟨by first | omega | (simp only [hN]; omega), fun b hb hne => by (try simp only [hN] at hb hne); simp (disch := first | omega | (simp only [hN] <;> omega) | fail) only [go_sem, simprocAttr, f.old]⟩ (by rw [e1, e2, e3, e4, e5]; rfl)
            exact ⟨fun e => by first | exact this.1 e | (simp (disch := first | omega | (simp only [hN] <;> omega) | fail) only [go_sem, simprocAttr]; exact this.1 e), fun e => by first | exact this.2 e | (simp (disch := first | omega | (simp only [hN] <;> omega) | fail) only [go_sem, simprocAttr, formStop]; exact this.2 e)⟩
          · refine need_spec fun h' f => ?_
            have hn := f.n; try simp only [hN] at hn
            have := hq false h' ⟨by first | omega | (simp only [hN]; omega), fun b hb hne => by (try simp only [hN] at hb hne); simp (disch := first | omega | (simp only [hN] <;> omega) | fail) only [go_sem, simprocAttr, f.old]⟩ (by rw [e1, e2, e3, e4, e5]; rfl)
            exact ⟨fun e => (by cases e), fun e => by first | exact this.2 e | (simp (disch := first | omega | (simp only [hN] <;> omega) | fail) only [go_sem, simprocAttr, formStop]; exact this.2 e)⟩
        · refine need_spec fun h' f => ?_
          have hn := f.n; try simp only [hN] at hn
          have := hq false h' ⟨by first | omega | (simp only [hN]; omega), fun b hb hne => by (try simp only [hN] at hb hne); simp (disch := first | omega | (simp only [hN] <;> omega) | fail) only [go_sem, simprocAttr, f.old]⟩ (by rw [e1, e2, e3, e4]; rfl)
          exact ⟨fun e => (by cases e), fun e => by first | exact this.2 e | (simp (disch := first | omega | (simp only [hN] <;> omega) | fail) only [go_sem, simprocAttr, formStop]; exact this.2 e)⟩
      · refine need_spec fun h' f => ?_
        have hn := f.n; try simp only [hN] at hn
        have := hq false h' ⟨by first | omega | (simp only [hN]; omega), fun b hb hne => by (try simp only [hN] at hb hne); simp (disch := first | omega | (simp only [hN] <;> omega) | fail) only [go_sem, simprocAttr, f.old]⟩ (by rw [e1, e2, e3]; rfl)
        exact ⟨fun e => (by cases e), fun e => by first | exact this.2 e | (simp (disch := first | omega | (simp only [hN] <;> omega) | fail) only [go_sem, simprocAttr, formStop]; exact this.2 e)⟩
    · refine need_spec fun h' f => ?_
      have hn := f.n; try simp only [hN] at hn
      have := hq false h' ⟨by first | omega | (simp only [hN]; omega), fun b hb hne => by (try simp only [hN] at hb hne); simp (disch := first | omega | (simp only [hN] <;> omega) | fail) only [go_sem, simprocAttr, f.old]⟩ (by rw [e1, e2]; rfl)
      exact ⟨fun e => (by cases e), fun e => by first | exact this.2 e | (simp (disch := first | omega | (simp only [hN] <;> omega) | fail) only [go_sem, simprocAttr, formStop]; exact this.2 e)⟩
  · refine need_spec fun h' f => ?_
    have hn := f.n; try simp only [hN] at hn
    have := hq false h' ⟨by first | omega | (simp only [hN]; omega), fun b hb hne => by (try simp only [hN] at hb hne); simp (disch := first | omega | (simp only [hN] <;> omega) | fail) only [go_sem, simprocAttr, f.old]⟩ (by rw [e1]; rfl)
    exact ⟨fun e => (by cases e), fun e => by first | exact this.2 e | (simp (disch := first | omega | (simp only [hN] <;> omega) | fail) only [go_sem, simprocAttr, formStop]; exact this.2 e)⟩
end Go.Ev
/- The form of trees: names. -/
namespace Go.Ev
open Go
set_option maxRecDepth 100000
set_option maxHeartbeats 4000000

theorem fword_spec {s : Bs} {h : AHeap} {Q : QR} (hG : GH h) (hlen : s.length < 2 ^ 62) (hQ : AskQ h Q (wordB s)) : WF F 97 [.agg [], .str s] h Q := by
  refine WF.code F97 rfl ?_
  simp (disch := first | omega | (simp only [hN] <;> omega) | fail) only [go_sem, simprocAttr]
  refine tokens_spec (hG.alloc _) hlen ?_
  unfold wordB at hQ
  cases hts : tokens s with
  | error x =>
    obtain ⟨e, p⟩ := x
    rw [hts] at hQ
    intro h1 f1
    have hn1 := f1.n; try simp only [hN] at hn1
    simp (disch := first | omega | (simp only [hN] <;> omega) | fail) only [go_sem, simprocAttr, f1.old, errAV, errG, eqT, eqK]
    refine need_spec fun h' f => ?_
    have hn := f.n; try simp only [hN] at hn
    have := hQ h' ⟨by first | omega | (simp only [hN]; omega), fun b hb hne => by (try simp only [hN] at hb hne); simp (disch := first | omega | (simp only [hN] <;> omega) | fail) only [go_sem, simprocAttr, f.old, f1.old]⟩
    exact ⟨fun e => (by cases e), fun e => by simp (disch := first | omega | (simp only [hN] <;> omega) | fail) only [go_sem, simprocAttr, formStop]; exact this.2 rfl⟩
  | ok ts =>
    rw [hts] at hQ
    intro h1 v f1 hsl
    have hn1 := f1.n; try simp only [hN] at hn1
    match ts, hsl, hQ with
    | [], hsl, hQ =>
      have hv : v = .nilSlice := by
        obtain ⟨_, ⟨_, h2⟩ | ⟨h2, _⟩⟩ := hsl
        · exact h2
        · simp at h2
      subst hv
      simp (disch := first | omega | (simp only [hN] <;> omega) | fail) only [go_sem, simprocAttr, f1.old, eqT, eqK]
      refine need_spec fun h' f => ?_
      have hn := f.n; try simp only [hN] at hn
      have := hQ h' ⟨by first | omega | (simp only [hN]; omega), fun b hb hne => by (try simp only [hN] at hb hne); simp (disch := first | omega | (simp only [hN] <;> omega) | fail) only [go_sem, simprocAttr, f.old, f1.old]⟩
      exact ⟨fun e => (by cases e), fun e => by simp (disch := first | omega | (simp only [hN] <;> omega) | fail) only [go_sem, simprocAttr, formStop]; exact this.2 rfl⟩
    | [t], hsl, hQ =>
      obtain ⟨b, ver, rfl, hb1, hb2, hb3⟩ := hsl.block (by simp)
      have hrow : toksAV [t] = [.int .i64 t.kind, .str t.text, .int .i64 t.n, .int .u64 t.bits, .int .i64 t.pos] := rfl
      rw [hrow] at hb3
      simp (disch := first | omega | (simp only [hN] <;> omega) | fail) only [go_sem, simprocAttr, f1.old, eqT, eqK, hb3]
      (first | refine kA (fun e1 => ?_) (fun e1 => ?_) | refine kB (fun e1 => ?_) (fun e1 => ?_) | refine kC (fun e1 => ?_) (fun e1 => ?_) | refine kD (fun e1 => ?_) (fun e1 => ?_) | refine kE (fun e1 => ?_) (fun e1 => ?_) | refine kF (fun e1 => ?_) (fun e1 => ?_)) <;> simp (disch := first | omega | (simp only [hN] <;> omega) | fail) only [go_sem, simprocAttr, e1, hb3]
      · refine need_spec fun h' f => ?_
        have hn := f.n; try simp only [hN] at hn
        have := hQ h' ⟨by first | omega | (simp only [hN]; omega), fun b hb hne => by (try simp only [hN] at hb hne); simp (disch := first | omega | (simp only [hN] <;> omega) | fail) only [go_sem, simprocAttr, f.old, f1.old]⟩
        simp only [e1, Bool.true_and] at this
        exact ⟨fun e => by simp (disch := first | omega | (simp only [hN] <;> omega) | fail) only [go_sem, simprocAttr]; exact this.1 e, fun e => by simp (disch := first | omega | (simp only [hN] <;> omega) | fail) only [go_sem, simprocAttr, formStop]; exact this.2 e⟩
      · refine need_spec fun h' f => ?_
        have hn := f.n; try simp only [hN] at hn
        have := hQ h' ⟨by first | omega | (simp only [hN]; omega), fun b hb hne => by (try simp only [hN] at hb hne); simp (disch := first | omega | (simp only [hN] <;> omega) | fail) only [go_sem, simprocAttr, f.old, f1.old]⟩
        have h3 := this.2 (by simp only [e1, Bool.false_and])
        exact ⟨fun e => (by cases e), fun e => by simp (disch := first | omega | (simp only [hN] <;> omega) | fail) only [go_sem, simprocAttr, formStop]; exact h3⟩
    | t :: t2 :: r, hsl, hQ =>
      obtain ⟨b, ver, rfl, hb1, hb2, hb3⟩ := hsl.block (by simp)
      have c1 : (((r.length + 1 + 1 : Nat) : Int) == 1) = false := by
        rw [beq_eq_false_iff_ne]; omega
      simp (disch := first | omega | (simp only [hN] <;> omega) | fail) only [go_sem, simprocAttr, f1.old, eqT, eqK, c1]
      refine need_spec fun h' f => ?_
      have hn := f.n; try simp only [hN] at hn
      have := hQ h' ⟨by first | omega | (simp only [hN]; omega), fun b hb hne => by (try simp only [hN] at hb hne); simp (disch := first | omega | (simp only [hN] <;> omega) | fail) only [go_sem, simprocAttr, f.old, f1.old]⟩
      exact ⟨fun e => (by cases e), fun e => by simp (disch := first | omega | (simp only [hN] <;> omega) | fail) only [go_sem, simprocAttr, formStop]; exact this.2 rfl⟩
end Go.Ev
/- The form of trees: the asking as a whole. -/
namespace Go.Ev
open Go
set_option maxRecDepth 100000
set_option maxHeartbeats 4000000

theorem frecover_ret {o : Nat} {h : AHeap} {Q : AHeap → Prop} (hQ : Q h) : WDef F 93 [.ptr o 0] .ret h Q := by
  refine WDef.code F93 rfl ?_
  simp (disch := first | omega | (simp only [hN] <;> omega) | fail) only [go_sem, simprocAttr, eqT, eqK]
  exact hQ
theorem frecover_stop {o v1 : Nat} {h : AHeap} {x1 : AV} {Q : AHeap → Prop} (hG : GH h) (ho : h.get o = some ⟨v1, .cells .own 0 [x1]⟩) (hon : o < h.n)
    (hQ : ∀ h', h.n ≤ h'.n → (∀ c, c < h.n → c ≠ o → h'.get c = h.get c) → (∃ v, h'.get o = some ⟨v, .cells .own 0 [errAV 9]⟩) → Q h') :
    WDef F 93 [.ptr o 0] (.pan (.iface 145 (.agg []))) h Q := by
  refine WDef.code F93 rfl ?_
  have g0 : h.get 0 = some ⟨0, .cells .ro 0 [errAV 9]⟩ := hG.gl 0 (by decide)
  have hn0 := hG.n
  have d1 : decide (h.n = o) = false := decide_eq_false (by omega)
  simp (disch := first | omega | (simp only [hN] <;> omega) | fail) only [go_sem, simprocAttr, eqT, eqK, Nat.beq_refl, List.getElem?_cons_zero, ho, d1, g0]
  exact hQ _ (by simp only [AHeap.alloc_n, AHeap.upd_n]; omega) (fun c hc h1 => by simp (disch := first | omega | (simp only [hN] <;> omega) | fail) only [go_sem, simprocAttr]) ⟨v1 + 1, by simp (disch := first | omega | (simp only [hN] <;> omega) | fail) only [go_sem, simprocAttr]⟩

/-- An asking's end: nothing, or the error. -/
def FormQ (h : AHeap) (Q : QR) (b : Bool) : Prop := ∀ h', Fr h.n h h' → Q (.ret (bif b then .nilIface else errAV 9)) h'
theorem inForm_spec {fid : Nat} {cap : List AV} {b : Bool} {h : AHeap} {Q : QR} (hG : GH h) (body : ∀ h1 Q1, Fr h.n h h1 → GH h1 → AskQ h1 Q1 b → WF F fid (.agg [] :: cap) h1 Q1) (hQ : FormQ h Q b) :
    WF F 51 [.func (.func fid) [] cap] h Q := by
  refine WF.code F51 rfl ?_
  simp (disch := first | omega | (simp only [hN] <;> omega) | fail) only [go_sem, simprocAttr]
  have f0 : Fr h.n h (h.alloc (.cells .own 0 [.nilIface])) := ⟨by first | omega | (simp only [hN]; omega), fun b hb hne => by (try simp only [hN] at hb hne); simp (disch := first | omega | (simp only [hN] <;> omega) | fail) only [go_sem, simprocAttr]⟩
  refine body _ _ f0 (hG.alloc _) ?_
  intro h1 f1
  have hn1 := f1.n; try simp only [hN] at hn1
  have hG1 : GH h1 := f1.gh (by have := hG.n; simp (disch := first | omega | (simp only [hN] <;> omega) | fail) only [go_sem, simprocAttr]; omega) (hG.alloc _)
  have q1 : h1.get h.n = some ⟨0, .cells .own 0 [.nilIface]⟩ := by simp (disch := first | omega | (simp only [hN] <;> omega) | fail) only [go_sem, simprocAttr, f1.old]
  constructor
  · rintro rfl
    simp (disch := first | omega | (simp only [hN] <;> omega) | fail) only [go_sem, simprocAttr, q1]
    refine frecover_ret ?_
    simp (disch := first | omega | (simp only [hN] <;> omega) | fail) only [go_sem, simprocAttr, q1]
    exact hQ _ ⟨by first | omega | (simp only [hN]; omega), fun b hb hne => by (try simp only [hN] at hb hne); simp (disch := first | omega | (simp only [hN] <;> omega) | fail) only [go_sem, simprocAttr, f1.old]⟩
  · rintro rfl
    simp (disch := first | omega | (simp only [hN] <;> omega) | fail) only [go_sem, simprocAttr, formStop]
    refine frecover_stop hG1 q1 (by omega) ?_
    rintro h2 hn2 hf2 ⟨v2, q2⟩
    simp (disch := first | omega | (simp only [hN] <;> omega) | fail) only [go_sem, simprocAttr, q2]
    exact hQ _ ⟨by omega, fun b hb _ => by rw [hf2 _ (by omega) (by omega), f1.old _ (by simp (disch := first | omega | (simp only [hN] <;> omega) | fail) only [go_sem, simprocAttr]; omega) (by simp (disch := first | omega | (simp only [hN] <;> omega) | fail) only [go_sem, simprocAttr]; omega)]; simp (disch := first | omega | (simp only [hN] <;> omega) | fail) only [go_sem, simprocAttr]⟩
end Go.Ev
/- Rows of kids. -/
namespace Go.Ev
attribute [go_sem] ndC
open Go
set_option maxRecDepth 100000
set_option maxHeartbeats 4000000

theorem RowsS.get {lo : Nat} {h : AHeap} : {ns : List Nd} → {css : List AV} → RowsR lo h ns css → ∀ {i : Nat} (hi : i < ns.length), ∃ kv, row css (i * 9) 9 = some (ndC ns[i] kv) ∧ KidsR lo h ns[i].kids kv
  | _, _, .nil, i, hi => absurd hi (Nat.not_lt_zero _)
  | _, _, .cons (n := n) (ns := ns) (kv := kv) (css := css) k r, 0, _ => by
    refine ⟨kv, ?_, k⟩
    have : ((ndC n kv ++ css).drop 0).take 9 = ndC n kv := by simp [ndC]
    unfold row
    rw [Nat.zero_mul, ble_nat, decide_eq_true (by simp [ndC])]
    simp [ndC]
  | _, _, .cons (n := n) (ns := ns) (kv := kv) (css := css) k r, i + 1, hi => by
    obtain ⟨kv', h1, h2⟩ := r.get (i := i) (by simpa using hi)
    refine ⟨kv', ?_, h2⟩
    have e : (i + 1) * 9 = i * 9 + 1 + 1 + 1 + 1 + 1 + 1 + 1 + 1 + 1 := by omega
    rw [e]
    simp only [ndC, List.cons_append, List.nil_append, row_tl]
    exact h1

theorem KidsR.len {lo : Nat} {h : AHeap} {ns : List Nd} {v : AV} (k : KidsR lo h ns v) : lenA v = some (ns.length : Int) := by
  cases k <;> rfl
theorem KidsR.small {lo : Nat} {h : AHeap} {ns : List Nd} {v : AV} (k : KidsR lo h ns v) : ns.length < 2 ^ 61 := by
  cases k with
  | nil => simp
  | emp => simp
  | row _ h0 _ _ _ _ _ => exact h0
end Go.Ev
/- The form of a program of one mutex. -/
namespace Go.Ev
open Go
set_option maxRecDepth 100000
set_option maxHeartbeats 4000000

def mtx (s : Bs) : Nd := .mk 4 0 s 0 0 0 0 0 []
theorem fmutex_spec {s : Bs} {h : AHeap} {Q : QR} (hG : GH h) (hlen : s.length < 2 ^ 62) (hQ : AskQ h Q (wordB s)) : WF F 96 [.agg [], .agg (ndC (mtx s) .nilSlice)] h Q := by
  refine WF.code F96 rfl ?_
  simp (disch := first | omega | (simp only [hN] <;> omega) | fail) only [go_sem, simprocAttr, mtx, Nd.kind, Nd.pos, Nd.name, Nd.typ, Nd.n, Nd.size, Nd.obj, Nd.bits]
  refine fword_spec ((hG.alloc _).alloc _) hlen ?_
  intro h1 f1
  have hn1 := f1.n; try simp only [hN] at hn1
  have q1 : h1.get (h.n + 1) = some ⟨0, .cells .own 0 (ndC (mtx s) .nilSlice)⟩ := by simp (disch := first | omega | (simp only [hN] <;> omega) | fail) only [go_sem, simprocAttr, f1.old, mtx, Nd.kind, Nd.pos, Nd.name, Nd.typ, Nd.n, Nd.size, Nd.obj, Nd.bits]
  have q0 : h1.get h.n = some ⟨0, .cells .own 0 []⟩ := by simp (disch := first | omega | (simp only [hN] <;> omega) | fail) only [go_sem, simprocAttr, f1.old]
  constructor
  · intro hw
    simp (disch := first | omega | (simp only [hN] <;> omega) | fail) only [go_sem, simprocAttr, q0, q1, mtx, Nd.kind, Nd.pos, Nd.name, Nd.typ, Nd.n, Nd.size, Nd.obj, Nd.bits]
    refine bare_spec (n := mtx s) (kv := .nilSlice) (nm := s) (t := 0) (k := 0) (bits := 0) rfl rfl ?_
    have hb : bareB (mtx s) s 0 0 0 = true := by simp [bareB, mtx, Nd.name, Nd.typ, Nd.n, Nd.size, Nd.obj, Nd.bits]
    rw [hb]
    intro h2 f2
    have hn2 := f2.n; try simp only [hN] at hn2
    refine ⟨fun _ => ?_, fun e => by cases e⟩
    have q12 : h2.get (h.n + 1) = some ⟨0, .cells .own 0 (ndC (mtx s) .nilSlice)⟩ := by rw [f2.all (by omega)]; exact q1
    have q02 : h2.get h.n = some ⟨0, .cells .own 0 []⟩ := by rw [f2.all (by omega)]; exact q0
    simp (disch := first | omega | (simp only [hN] <;> omega) | fail) only [go_sem, simprocAttr, q02, q12, mtx, Nd.kind, Nd.pos, Nd.name, Nd.typ, Nd.n, Nd.size, Nd.obj, Nd.bits]
    refine need_spec fun h3 f3 => ⟨fun _ => ?_, fun e => by cases e⟩
    have hn3 := f3.n; try simp only [hN] at hn3
    simp (disch := first | omega | (simp only [hN] <;> omega) | fail) only [go_sem, simprocAttr]
    exact (hQ _ ⟨by first | omega | (simp only [hN]; omega), fun b hb hne => by (try simp only [hN] at hb hne); simp (disch := first | omega | (simp only [hN] <;> omega) | fail) only [go_sem, simprocAttr, f3.old, f2.old, f1.old]⟩).1 hw
  · intro hw
    simp (disch := first | omega | (simp only [hN] <;> omega) | fail) only [go_sem, simprocAttr, formStop]
    exact (hQ _ ⟨by first | omega | (simp only [hN]; omega), fun b hb hne => by (try simp only [hN] at hb hne); simp (disch := first | omega | (simp only [hN] <;> omega) | fail) only [go_sem, simprocAttr, f1.old]⟩).2 hw
theorem fprog1_spec {s : Bs} {h : AHeap} {b ver : Nat} {Q : QR} (hG : GH h) (hlen : s.length < 2 ^ 62) (hb : b < h.n) (hg : h.get b = some ⟨ver, .cells .own 9 (ndC (mtx s) .nilSlice)⟩) (hQ : AskQ h Q (wordB s)) :
    WF F 53 [.agg [], .agg (ndC (.mk 1 0 [] 0 0 0 0 0 []) (.slice b 0 1 1 true))] h Q := by
  refine WF.code F53 rfl ?_
  simp (disch := first | omega | (simp only [hN] <;> omega) | fail) only [go_sem, simprocAttr, Nd.kind, Nd.pos, Nd.name, Nd.typ, Nd.n, Nd.size, Nd.obj, Nd.bits]
  refine need_spec fun h1 f1 => ⟨fun _ => ?_, fun e => by cases e⟩
  have hn1 := f1.n; try simp only [hN] at hn1
  have q1 : h1.get (h.n + 1) = some ⟨0, .cells .own 0 (ndC (.mk 1 0 [] 0 0 0 0 0 []) (.slice b 0 1 1 true))⟩ := by simp (disch := first | omega | (simp only [hN] <;> omega) | fail) only [go_sem, simprocAttr, f1.old, Nd.kind, Nd.pos, Nd.name, Nd.typ, Nd.n, Nd.size, Nd.obj, Nd.bits]
  have q0 : h1.get h.n = some ⟨0, .cells .own 0 []⟩ := by simp (disch := first | omega | (simp only [hN] <;> omega) | fail) only [go_sem, simprocAttr, f1.old]
  have qb : h1.get b = some ⟨ver, .cells .own 9 (ndC (mtx s) .nilSlice)⟩ := by simp (disch := first | omega | (simp only [hN] <;> omega) | fail) only [go_sem, simprocAttr, f1.old, hg]
  have hG1 : GH h1 := f1.gh (by have := hG.n; simp (disch := first | omega | (simp only [hN] <;> omega) | fail) only [go_sem, simprocAttr]; omega) ((hG.alloc _).alloc _)
  simp (disch := first | omega | (simp only [hN] <;> omega) | fail) only [go_sem, simprocAttr, q0, q1, Nd.kind, Nd.pos, Nd.name, Nd.typ, Nd.n, Nd.size, Nd.obj, Nd.bits]
  refine bare_spec (n := .mk 1 0 [] 0 0 0 0 0 []) (kv := .slice b 0 1 1 true) (nm := []) (t := 0) (k := 0) (bits := 0) rfl rfl ?_
  have hb1 : bareB (.mk 1 0 [] 0 0 0 0 0 []) [] 0 0 0 = true := rfl
  rw [hb1]
  intro h2 f2
  have hn2 := f2.n; try simp only [hN] at hn2
  refine ⟨fun _ => ?_, fun e => by cases e⟩
  have q12 : h2.get (h.n + 1) = some ⟨0, .cells .own 0 (ndC (.mk 1 0 [] 0 0 0 0 0 []) (.slice b 0 1 1 true))⟩ := by rw [f2.all (by omega)]; exact q1
  have q02 : h2.get h.n = some ⟨0, .cells .own 0 []⟩ := by rw [f2.all (by omega)]; exact q0
  have qb2 : h2.get b = some ⟨ver, .cells .own 9 (ndC (mtx s) .nilSlice)⟩ := by rw [f2.all (by omega)]; exact qb
  have hG2 : GH h2 := f2.gh hG1.n hG1
  simp (disch := first | omega | (simp only [hN] <;> omega) | fail) only [go_sem, simprocAttr, q02, q12, Nd.kind, Nd.pos, Nd.name, Nd.typ, Nd.n, Nd.size, Nd.obj, Nd.bits]
  refine wp_loop (fun n a h' => ∃ i : Nat, n = 1 - i ∧ i ≤ 1 ∧ Fr h2.n h2 h' ∧ (1 ≤ i → wordB s = true) ∧ a.tm.get 2 = some (.ptr h.n 0) ∧ a.tm.get 16 = some (.slice b 0 1 1 true) ∧ a.tm.get 17 = some (.int .i64 1) ∧ a.tm.get 18 = some (.int .i64 (i : Int)) ∧ a.df = []) ?_ 1 ?_
  · rintro n ⟨t, df⟩ h3 ⟨i, hn, hi, hf3, hw, k2, k16, k17, k18, hdf⟩
    simp only at k2 k16 k17 k18 hdf
    subst hdf
    have hn3 := hf3.n; try simp only [hN] at hn3
    simp (disch := first | omega | (simp only [hN] <;> omega) | fail) only [go_sem, simprocAttr, k17, k18]
    (first | refine kA (fun hlt => ?_) (fun hlt => ?_) | refine kB (fun hlt => ?_) (fun hlt => ?_) | refine kC (fun hlt => ?_) (fun hlt => ?_) | refine kD (fun hlt => ?_) (fun hlt => ?_) | refine kE (fun hlt => ?_) (fun hlt => ?_) | refine kF (fun hlt => ?_) (fun hlt => ?_))
    · have hil : i = 0 := by have := of_decide_eq_true hlt; omega
      subst hil
      have q03 : h3.get h.n = some ⟨0, .cells .own 0 []⟩ := by rw [hf3.all (by omega)]; exact q02
      have qb3 : h3.get b = some ⟨ver, .cells .own 9 (ndC (mtx s) .nilSlice)⟩ := by rw [hf3.all (by omega)]; exact qb2
      have hG3 : GH h3 := hf3.gh hG2.n hG2
      simp (disch := first | omega | (simp only [hN] <;> omega) | fail) only [go_sem, simprocAttr, k2, k16, k17, k18, q03, qb3, mtx, Nd.kind, Nd.pos, Nd.name, Nd.typ, Nd.n, Nd.size, Nd.obj, Nd.bits, Int.natCast_zero]
      refine fmutex_spec ((hG3.alloc _).upd (by have := hG3.n; omega) _ _) hlen ?_
      intro h4 f4
      have hn4 := f4.n; try simp only [hN] at hn4
      constructor
      · intro hw
        simp (disch := first | omega | (simp only [hN] <;> omega) | fail) only [go_sem, simprocAttr, k2, k16, k17, k18]
        exact ⟨0, by omega, 1, rfl, Nat.le_refl _, ⟨by first | omega | (simp only [hN]; omega), fun b hb hne => by (try simp only [hN] at hb hne); simp (disch := first | omega | (simp only [hN] <;> omega) | fail) only [go_sem, simprocAttr, f4.old, hf3.old]⟩, fun _ => hw, rfl⟩
      · intro hw
        simp (disch := first | omega | (simp only [hN] <;> omega) | fail) only [go_sem, simprocAttr, formStop]
        exact (hQ _ ⟨by first | omega | (simp only [hN]; omega), fun b hb hne => by (try simp only [hN] at hb hne); simp (disch := first | omega | (simp only [hN] <;> omega) | fail) only [go_sem, simprocAttr, f4.old, hf3.old, f2.old, f1.old]⟩).2 hw
    · have hil : i = 1 := by have := of_decide_eq_false hlt; omega
      subst hil
      simp (disch := first | omega | (simp only [hN] <;> omega) | fail) only [go_sem, simprocAttr]
      exact (hQ _ ⟨by first | omega | (simp only [hN]; omega), fun b hb hne => by (try simp only [hN] at hb hne); simp (disch := first | omega | (simp only [hN] <;> omega) | fail) only [go_sem, simprocAttr, hf3.old, f2.old, f1.old]⟩).1 (hw (Nat.le_refl _))
  · exact ⟨0, rfl, Nat.zero_le _, Fr.refl _ _, fun h => absurd h (by decide), by simp (disch := first | omega | (simp only [hN] <;> omega) | fail) only [go_sem, simprocAttr], by simp (disch := first | omega | (simp only [hN] <;> omega) | fail) only [go_sem, simprocAttr], by simp (disch := first | omega | (simp only [hN] <;> omega) | fail) only [go_sem, simprocAttr], by simp (disch := first | omega | (simp only [hN] <;> omega) | fail) only [go_sem, simprocAttr], rfl⟩
end Go.Ev
/- The document's own words: keys and names. -/
namespace Go.Ev
open Go
set_option maxRecDepth 100000
set_option maxHeartbeats 4000000
theorem rkey_spec {w : Bs} {h : AHeap} {Q : QR} (hQ : Q (.ret (.bool (keys.contains w))) h) : WF F 54 [.str w] h Q := by
  refine WF.code F54 rfl ?_
  simp (disch := first | omega | (simp only [hN] <;> omega) | fail) only [go_sem, simprocAttr]
  (first | refine kA (fun k0 => ?_) (fun k0 => ?_) | refine kB (fun k0 => ?_) (fun k0 => ?_) | refine kC (fun k0 => ?_) (fun k0 => ?_) | refine kD (fun k0 => ?_) (fun k0 => ?_) | refine kE (fun k0 => ?_) (fun k0 => ?_) | refine kF (fun k0 => ?_) (fun k0 => ?_))
  · have : w = [97, 100, 100] := by simpa using k0
    subst this
    simp (disch := first | omega | (simp only [hN] <;> omega) | fail) only [go_sem, simprocAttr]
    exact hQ
  simp (disch := first | omega | (simp only [hN] <;> omega) | fail) only [go_sem, simprocAttr]
  (first | refine kA (fun k1 => ?_) (fun k1 => ?_) | refine kB (fun k1 => ?_) (fun k1 => ?_) | refine kC (fun k1 => ?_) (fun k1 => ?_) | refine kD (fun k1 => ?_) (fun k1 => ?_) | refine kE (fun k1 => ?_) (fun k1 => ?_) | refine kF (fun k1 => ?_) (fun k1 => ?_))
  · have : w = [97, 116, 111, 109, 105, 99] := by simpa using k1
    subst this
    simp (disch := first | omega | (simp only [hN] <;> omega) | fail) only [go_sem, simprocAttr]
    exact hQ
  simp (disch := first | omega | (simp only [hN] <;> omega) | fail) only [go_sem, simprocAttr]
  (first | refine kA (fun k2 => ?_) (fun k2 => ?_) | refine kB (fun k2 => ?_) (fun k2 => ?_) | refine kC (fun k2 => ?_) (fun k2 => ?_) | refine kD (fun k2 => ?_) (fun k2 => ?_) | refine kE (fun k2 => ?_) (fun k2 => ?_) | refine kF (fun k2 => ?_) (fun k2 => ?_))
  · have : w = [98, 111, 111, 108] := by simpa using k2
    subst this
    simp (disch := first | omega | (simp only [hN] <;> omega) | fail) only [go_sem, simprocAttr]
    exact hQ
  simp (disch := first | omega | (simp only [hN] <;> omega) | fail) only [go_sem, simprocAttr]
  (first | refine kA (fun k3 => ?_) (fun k3 => ?_) | refine kB (fun k3 => ?_) (fun k3 => ?_) | refine kC (fun k3 => ?_) (fun k3 => ?_) | refine kD (fun k3 => ?_) (fun k3 => ?_) | refine kE (fun k3 => ?_) (fun k3 => ?_) | refine kF (fun k3 => ?_) (fun k3 => ?_))
  · have : w = [99, 104, 97, 110] := by simpa using k3
    subst this
    simp (disch := first | omega | (simp only [hN] <;> omega) | fail) only [go_sem, simprocAttr]
    exact hQ
  simp (disch := first | omega | (simp only [hN] <;> omega) | fail) only [go_sem, simprocAttr]
  (first | refine kA (fun k4 => ?_) (fun k4 => ?_) | refine kB (fun k4 => ?_) (fun k4 => ?_) | refine kC (fun k4 => ?_) (fun k4 => ?_) | refine kD (fun k4 => ?_) (fun k4 => ?_) | refine kE (fun k4 => ?_) (fun k4 => ?_) | refine kF (fun k4 => ?_) (fun k4 => ?_))
  · have : w = [101, 108, 115, 101] := by simpa using k4
    subst this
    simp (disch := first | omega | (simp only [hN] <;> omega) | fail) only [go_sem, simprocAttr]
    exact hQ
  simp (disch := first | omega | (simp only [hN] <;> omega) | fail) only [go_sem, simprocAttr]
  (first | refine kA (fun k5 => ?_) (fun k5 => ?_) | refine kB (fun k5 => ?_) (fun k5 => ?_) | refine kC (fun k5 => ?_) (fun k5 => ?_) | refine kD (fun k5 => ?_) (fun k5 => ?_) | refine kE (fun k5 => ?_) (fun k5 => ?_) | refine kF (fun k5 => ?_) (fun k5 => ?_))
  · have : w = [102, 97, 105, 108] := by simpa using k5
    subst this
    simp (disch := first | omega | (simp only [hN] <;> omega) | fail) only [go_sem, simprocAttr]
    exact hQ
  simp (disch := first | omega | (simp only [hN] <;> omega) | fail) only [go_sem, simprocAttr]
  (first | refine kA (fun k6 => ?_) (fun k6 => ?_) | refine kB (fun k6 => ?_) (fun k6 => ?_) | refine kC (fun k6 => ?_) (fun k6 => ?_) | refine kD (fun k6 => ?_) (fun k6 => ?_) | refine kE (fun k6 => ?_) (fun k6 => ?_) | refine kF (fun k6 => ?_) (fun k6 => ?_))
  · have : w = [102, 97, 108, 115, 101] := by simpa using k6
    subst this
    simp (disch := first | omega | (simp only [hN] <;> omega) | fail) only [go_sem, simprocAttr]
    exact hQ
  simp (disch := first | omega | (simp only [hN] <;> omega) | fail) only [go_sem, simprocAttr]
  (first | refine kA (fun k7 => ?_) (fun k7 => ?_) | refine kB (fun k7 => ?_) (fun k7 => ?_) | refine kC (fun k7 => ?_) (fun k7 => ?_) | refine kD (fun k7 => ?_) (fun k7 => ?_) | refine kE (fun k7 => ?_) (fun k7 => ?_) | refine kF (fun k7 => ?_) (fun k7 => ?_))
  · have : w = [102, 108, 111, 97, 116] := by simpa using k7
    subst this
    simp (disch := first | omega | (simp only [hN] <;> omega) | fail) only [go_sem, simprocAttr]
    exact hQ
  simp (disch := first | omega | (simp only [hN] <;> omega) | fail) only [go_sem, simprocAttr]
  (first | refine kA (fun k8 => ?_) (fun k8 => ?_) | refine kB (fun k8 => ?_) (fun k8 => ?_) | refine kC (fun k8 => ?_) (fun k8 => ?_) | refine kD (fun k8 => ?_) (fun k8 => ?_) | refine kE (fun k8 => ?_) (fun k8 => ?_) | refine kF (fun k8 => ?_) (fun k8 => ?_))
  · have : w = [102, 117, 110, 99] := by simpa using k8
    subst this
    simp (disch := first | omega | (simp only [hN] <;> omega) | fail) only [go_sem, simprocAttr]
    exact hQ
  simp (disch := first | omega | (simp only [hN] <;> omega) | fail) only [go_sem, simprocAttr]
  (first | refine kA (fun k9 => ?_) (fun k9 => ?_) | refine kB (fun k9 => ?_) (fun k9 => ?_) | refine kC (fun k9 => ?_) (fun k9 => ?_) | refine kD (fun k9 => ?_) (fun k9 => ?_) | refine kE (fun k9 => ?_) (fun k9 => ?_) | refine kF (fun k9 => ?_) (fun k9 => ?_))
  · have : w = [103, 101, 116] := by simpa using k9
    subst this
    simp (disch := first | omega | (simp only [hN] <;> omega) | fail) only [go_sem, simprocAttr]
    exact hQ
  simp (disch := first | omega | (simp only [hN] <;> omega) | fail) only [go_sem, simprocAttr]
  (first | refine kA (fun k10 => ?_) (fun k10 => ?_) | refine kB (fun k10 => ?_) (fun k10 => ?_) | refine kC (fun k10 => ?_) (fun k10 => ?_) | refine kD (fun k10 => ?_) (fun k10 => ?_) | refine kE (fun k10 => ?_) (fun k10 => ?_) | refine kF (fun k10 => ?_) (fun k10 => ?_))
  · have : w = [103, 111] := by simpa using k10
    subst this
    simp (disch := first | omega | (simp only [hN] <;> omega) | fail) only [go_sem, simprocAttr]
    exact hQ
  simp (disch := first | omega | (simp only [hN] <;> omega) | fail) only [go_sem, simprocAttr]
  (first | refine kA (fun k11 => ?_) (fun k11 => ?_) | refine kB (fun k11 => ?_) (fun k11 => ?_) | refine kC (fun k11 => ?_) (fun k11 => ?_) | refine kD (fun k11 => ?_) (fun k11 => ?_) | refine kE (fun k11 => ?_) (fun k11 => ?_) | refine kF (fun k11 => ?_) (fun k11 => ?_))
  · have : w = [105, 102] := by simpa using k11
    subst this
    simp (disch := first | omega | (simp only [hN] <;> omega) | fail) only [go_sem, simprocAttr]
    exact hQ
  simp (disch := first | omega | (simp only [hN] <;> omega) | fail) only [go_sem, simprocAttr]
  (first | refine kA (fun k12 => ?_) (fun k12 => ?_) | refine kB (fun k12 => ?_) (fun k12 => ?_) | refine kC (fun k12 => ?_) (fun k12 => ?_) | refine kD (fun k12 => ?_) (fun k12 => ?_) | refine kE (fun k12 => ?_) (fun k12 => ?_) | refine kF (fun k12 => ?_) (fun k12 => ?_))
  · have : w = [105, 110, 116] := by simpa using k12
    subst this
    simp (disch := first | omega | (simp only [hN] <;> omega) | fail) only [go_sem, simprocAttr]
    exact hQ
  simp (disch := first | omega | (simp only [hN] <;> omega) | fail) only [go_sem, simprocAttr]
  (first | refine kA (fun k13 => ?_) (fun k13 => ?_) | refine kB (fun k13 => ?_) (fun k13 => ?_) | refine kC (fun k13 => ?_) (fun k13 => ?_) | refine kD (fun k13 => ?_) (fun k13 => ?_) | refine kE (fun k13 => ?_) (fun k13 => ?_) | refine kF (fun k13 => ?_) (fun k13 => ?_))
  · have : w = [108, 111, 99, 107] := by simpa using k13
    subst this
    simp (disch := first | omega | (simp only [hN] <;> omega) | fail) only [go_sem, simprocAttr]
    exact hQ
  simp (disch := first | omega | (simp only [hN] <;> omega) | fail) only [go_sem, simprocAttr]
  (first | refine kA (fun k14 => ?_) (fun k14 => ?_) | refine kB (fun k14 => ?_) (fun k14 => ?_) | refine kC (fun k14 => ?_) (fun k14 => ?_) | refine kD (fun k14 => ?_) (fun k14 => ?_) | refine kE (fun k14 => ?_) (fun k14 => ?_) | refine kF (fun k14 => ?_) (fun k14 => ?_))
  · have : w = [109, 117, 116, 101, 120] := by simpa using k14
    subst this
    simp (disch := first | omega | (simp only [hN] <;> omega) | fail) only [go_sem, simprocAttr]
    exact hQ
  simp (disch := first | omega | (simp only [hN] <;> omega) | fail) only [go_sem, simprocAttr]
  (first | refine kA (fun k15 => ?_) (fun k15 => ?_) | refine kB (fun k15 => ?_) (fun k15 => ?_) | refine kC (fun k15 => ?_) (fun k15 => ?_) | refine kD (fun k15 => ?_) (fun k15 => ?_) | refine kE (fun k15 => ?_) (fun k15 => ?_) | refine kF (fun k15 => ?_) (fun k15 => ?_))
  · have : w = [112, 117, 116] := by simpa using k15
    subst this
    simp (disch := first | omega | (simp only [hN] <;> omega) | fail) only [go_sem, simprocAttr]
    exact hQ
  simp (disch := first | omega | (simp only [hN] <;> omega) | fail) only [go_sem, simprocAttr]
  (first | refine kA (fun k16 => ?_) (fun k16 => ?_) | refine kB (fun k16 => ?_) (fun k16 => ?_) | refine kC (fun k16 => ?_) (fun k16 => ?_) | refine kD (fun k16 => ?_) (fun k16 => ?_) | refine kE (fun k16 => ?_) (fun k16 => ?_) | refine kF (fun k16 => ?_) (fun k16 => ?_))
  · have : w = [114, 101, 99, 118] := by simpa using k16
    subst this
    simp (disch := first | omega | (simp only [hN] <;> omega) | fail) only [go_sem, simprocAttr]
    exact hQ
  simp (disch := first | omega | (simp only [hN] <;> omega) | fail) only [go_sem, simprocAttr]
  (first | refine kA (fun k17 => ?_) (fun k17 => ?_) | refine kB (fun k17 => ?_) (fun k17 => ?_) | refine kC (fun k17 => ?_) (fun k17 => ?_) | refine kD (fun k17 => ?_) (fun k17 => ?_) | refine kE (fun k17 => ?_) (fun k17 => ?_) | refine kF (fun k17 => ?_) (fun k17 => ?_))
  · have : w = [114, 101, 116, 117, 114, 110] := by simpa using k17
    subst this
    simp (disch := first | omega | (simp only [hN] <;> omega) | fail) only [go_sem, simprocAttr]
    exact hQ
  simp (disch := first | omega | (simp only [hN] <;> omega) | fail) only [go_sem, simprocAttr]
  (first | refine kA (fun k18 => ?_) (fun k18 => ?_) | refine kB (fun k18 => ?_) (fun k18 => ?_) | refine kC (fun k18 => ?_) (fun k18 => ?_) | refine kD (fun k18 => ?_) (fun k18 => ?_) | refine kE (fun k18 => ?_) (fun k18 => ?_) | refine kF (fun k18 => ?_) (fun k18 => ?_))
  · have : w = [115, 101, 110, 100] := by simpa using k18
    subst this
    simp (disch := first | omega | (simp only [hN] <;> omega) | fail) only [go_sem, simprocAttr]
    exact hQ
  simp (disch := first | omega | (simp only [hN] <;> omega) | fail) only [go_sem, simprocAttr]
  (first | refine kA (fun k19 => ?_) (fun k19 => ?_) | refine kB (fun k19 => ?_) (fun k19 => ?_) | refine kC (fun k19 => ?_) (fun k19 => ?_) | refine kD (fun k19 => ?_) (fun k19 => ?_) | refine kE (fun k19 => ?_) (fun k19 => ?_) | refine kF (fun k19 => ?_) (fun k19 => ?_))
  · have : w = [116, 114, 117, 101] := by simpa using k19
    subst this
    simp (disch := first | omega | (simp only [hN] <;> omega) | fail) only [go_sem, simprocAttr]
    exact hQ
  simp (disch := first | omega | (simp only [hN] <;> omega) | fail) only [go_sem, simprocAttr]
  (first | refine kA (fun k20 => ?_) (fun k20 => ?_) | refine kB (fun k20 => ?_) (fun k20 => ?_) | refine kC (fun k20 => ?_) (fun k20 => ?_) | refine kD (fun k20 => ?_) (fun k20 => ?_) | refine kE (fun k20 => ?_) (fun k20 => ?_) | refine kF (fun k20 => ?_) (fun k20 => ?_))
  · have : w = [117, 110, 108, 111, 99, 107] := by simpa using k20
    subst this
    simp (disch := first | omega | (simp only [hN] <;> omega) | fail) only [go_sem, simprocAttr]
    exact hQ
  simp (disch := first | omega | (simp only [hN] <;> omega) | fail) only [go_sem, simprocAttr]
  (first | refine kA (fun k21 => ?_) (fun k21 => ?_) | refine kB (fun k21 => ?_) (fun k21 => ?_) | refine kC (fun k21 => ?_) (fun k21 => ?_) | refine kD (fun k21 => ?_) (fun k21 => ?_) | refine kE (fun k21 => ?_) (fun k21 => ?_) | refine kF (fun k21 => ?_) (fun k21 => ?_))
  · have : w = [118, 97, 114] := by simpa using k21
    subst this
    simp (disch := first | omega | (simp only [hN] <;> omega) | fail) only [go_sem, simprocAttr]
    exact hQ
  simp (disch := first | omega | (simp only [hN] <;> omega) | fail) only [go_sem, simprocAttr]
  (first | refine kA (fun k22 => ?_) (fun k22 => ?_) | refine kB (fun k22 => ?_) (fun k22 => ?_) | refine kC (fun k22 => ?_) (fun k22 => ?_) | refine kD (fun k22 => ?_) (fun k22 => ?_) | refine kE (fun k22 => ?_) (fun k22 => ?_) | refine kF (fun k22 => ?_) (fun k22 => ?_))
  · have : w = [119, 104, 105, 108, 101] := by simpa using k22
    subst this
    simp (disch := first | omega | (simp only [hN] <;> omega) | fail) only [go_sem, simprocAttr]
    exact hQ
  simp (disch := first | omega | (simp only [hN] <;> omega) | fail) only [go_sem, simprocAttr]
  have : keys.contains w = false := by
    simp only [keys, List.contains_cons, k0, k1, k2, k3, k4, k5, k6, k7, k8, k9, k10, k11, k12, k13, k14, k15, k16, k17, k18, k19, k20, k21, k22]
    rfl
  rw [this] at hQ
  exact hQ


theorem wchars_get : ∀ {s : Bs} {i j : Nat} (h : j < s.length), wchars i s = true → (isLetter s[j] || (decide (0 < i + j) && isDigit s[j])) = true
  | c :: r, i, 0, _, h => by simp only [wchars, Bool.and_eq_true] at h; simpa using h.1
  | c :: r, i, j + 1, hj, h => by
    simp only [wchars, Bool.and_eq_true] at h
    have := wchars_get (i := i + 1) (j := j) (by simpa using hj) h.2
    rw [show i + (j + 1) = i + 1 + j by omega]
    simpa using this
theorem wchars_of : ∀ {s : Bs} {i : Nat}, (∀ j (h : j < s.length), (isLetter s[j] || (decide (0 < i + j) && isDigit s[j])) = true) → wchars i s = true
  | [], _, _ => rfl
  | c :: r, i, h => by
    simp only [wchars, Bool.and_eq_true]
    have h0 := h 0 (by simp)
    simp only [List.getElem_cons_zero, Nat.add_zero] at h0
    refine ⟨h0, wchars_of fun j hj => ?_⟩
    have := h (j + 1) (by simpa using hj)
    rw [show i + (j + 1) = i + 1 + j by omega] at this
    simpa using this
theorem rword_spec {s : Bs} {h : AHeap} {Q : QR} (hlen : s.length < 2 ^ 62) (hQ : ∀ h', Fr h.n h h' → Q (.ret (.bool (rwordB s))) h') : WF F 22 [.str s] h Q := by
  refine WF.code F22 rfl ?_
  simp (disch := first | omega | (simp only [hN] <;> omega) | fail) only [go_sem, simprocAttr]
  refine wp_loop (fun n a h' => ∃ i : Nat, n = s.length - i ∧ i ≤ s.length ∧ h' = h ∧ (∀ j (hj : j < s.length), j < i → (isLetter s[j] || (decide (0 < j) && isDigit s[j])) = true) ∧ a.tm.get 0 = some (.str s) ∧ a.tm.get 3 = some (.int .i64 (i : Int)) ∧ a.df = []) ?_ s.length ?_
  · rintro n ⟨t, df⟩ h2 ⟨i, hn, hi, rfl, hall, k0, k3, hdf⟩
    simp only at k0 k3 hdf
    subst hdf
    simp (disch := first | omega | (simp only [hN] <;> omega) | fail) only [go_sem, simprocAttr, k0, k3]
    (first | refine kA (fun hlt => ?_) (fun hlt => ?_) | refine kB (fun hlt => ?_) (fun hlt => ?_) | refine kC (fun hlt => ?_) (fun hlt => ?_) | refine kD (fun hlt => ?_) (fun hlt => ?_) | refine kE (fun hlt => ?_) (fun hlt => ?_) | refine kF (fun hlt => ?_) (fun hlt => ?_))
    · have hil : i < s.length := (by have := of_decide_eq_true hlt; omega)
      have hget : s[i]? = some s[i] := List.getElem?_eq_getElem hil
      have hstep : ∀ b, b = (isLetter s[i] || (decide (0 < i) && isDigit s[i])) → b = true → ∀ j (hj : j < s.length), j < i + 1 → (isLetter s[j] || (decide (0 < j) && isDigit s[j])) = true := by
        intro b e1 e2 j hj hji
        by_cases e : j = i
        · subst e; rw [← e1]; exact e2
        · exact hall j hj (by omega)
      have hbad : (isLetter s[i] || (decide (0 < i) && isDigit s[i])) = false → rwordB s = false := by
        intro e
        unfold rwordB
        cases q : wchars 0 s with
        | false => simp
        | true => have q2 := wchars_get hil q; rw [Nat.zero_add, e] at q2; cases q2
      generalize s[i] = c at hget hstep hbad
      simp (disch := first | omega | (simp only [hN] <;> omega) | fail) only [go_sem, simprocAttr, k0, k3, hget, Int.toNat_natCast]
      have wu : wantB (some undefA) true = false := rfl
      repeat' ((first | refine kA (fun hb => ?_) (fun hb => ?_) | refine kB (fun hb => ?_) (fun hb => ?_) | refine kC (fun hb => ?_) (fun hb => ?_) | refine kD (fun hb => ?_) (fun hb => ?_) | refine kE (fun hb => ?_) (fun hb => ?_) | refine kF (fun hb => ?_) (fun hb => ?_)) <;> simp (disch := first | omega | (simp only [hN] <;> omega) | fail) only [go_sem, simprocAttr, hb, k0, k3, wu])
      all_goals first
        | (refine ⟨_, hn ▸ Nat.sub_lt_sub_left hil (Nat.lt_succ_self i), i + 1, rfl, hil, hstep true (Eq.symm ?_) rfl, rfl⟩
           clear hall hbad hstep hQ
           simp [isLetter, isDigit] at *
           omega)
        | (rw [hbad (by clear hall hstep hbad hQ; simp [isLetter, isDigit] at *; omega)] at hQ
           exact hQ _ (Fr.refl _ _))
        | trace_state
    · have hil : i = s.length := by have := of_decide_eq_false hlt; omega
      subst hil
      have hw : wchars 0 s = true := wchars_of fun j hj => by rw [Nat.zero_add]; exact hall j hj hj
      simp (disch := first | omega | (simp only [hN] <;> omega) | fail) only [go_sem, simprocAttr, k0]
      (first | refine kA (fun e1 => ?_) (fun e1 => ?_) | refine kB (fun e1 => ?_) (fun e1 => ?_) | refine kC (fun e1 => ?_) (fun e1 => ?_) | refine kD (fun e1 => ?_) (fun e1 => ?_) | refine kE (fun e1 => ?_) (fun e1 => ?_) | refine kF (fun e1 => ?_) (fun e1 => ?_)) <;> simp (disch := first | omega | (simp only [hN] <;> omega) | fail) only [go_sem, simprocAttr, e1, k0]
      · have l1 : 1 ≤ s.length := by have := of_decide_eq_true e1; omega
        (first | refine kA (fun e2 => ?_) (fun e2 => ?_) | refine kB (fun e2 => ?_) (fun e2 => ?_) | refine kC (fun e2 => ?_) (fun e2 => ?_) | refine kD (fun e2 => ?_) (fun e2 => ?_) | refine kE (fun e2 => ?_) (fun e2 => ?_) | refine kF (fun e2 => ?_) (fun e2 => ?_)) <;> simp (disch := first | omega | (simp only [hN] <;> omega) | fail) only [go_sem, simprocAttr, e2, k0]
        · have l2 : s.length ≤ 24 := by have := of_decide_eq_true e2; omega
          refine rkey_spec ?_
          simp (disch := first | omega | (simp only [hN] <;> omega) | fail) only [go_sem, simprocAttr, k0]
          refine useB (hQ _ (Fr.refl _ _)) ?_
          simp [rwordB, hw, l1, l2]
        · have l2 : ¬ s.length ≤ 24 := by have := of_decide_eq_false e2; omega
          refine useB (hQ _ (Fr.refl _ _)) ?_
          simp [rwordB, l2]
      · have l1 : ¬ 1 ≤ s.length := by have := of_decide_eq_false e1; omega
        refine useB (hQ _ (Fr.refl _ _)) ?_
        simp [rwordB, l1]
  · exact ⟨0, rfl, Nat.zero_le _, rfl, fun j _ h => absurd h (by omega), by simp (disch := first | omega | (simp only [hN] <;> omega) | fail) only [go_sem, simprocAttr], by simp (disch := first | omega | (simp only [hN] <;> omega) | fail) only [go_sem, simprocAttr], rfl⟩
end Go.Ev
/- The statement on names. -/
namespace Go.Ev
open Go
set_option maxRecDepth 100000
set_option maxHeartbeats 4000000

theorem fcheck_spec {cs : List AV} {b : Bool} {h : AHeap} {Q : QR} (hG : GH h) (hcf : cs.all AV.flat = true) (hl : cs.length = 9) (body : ∀ h1 Q1, Fr h.n h h1 → GH h1 → AskQ h1 Q1 b → WF F 53 [.agg [], .agg cs] h1 Q1) (hQ : FormQ h Q b) :
    WF F 21 [.agg cs] h Q := by
  refine WF.code F21 rfl ?_
  simp (disch := first | omega | (simp only [hN] <;> omega) | fail) only [go_sem, simprocAttr, hcf]
  have f0 : Fr h.n h (h.alloc (.cells .own 0 cs)) := ⟨by first | omega | (simp only [hN]; omega), fun b hb hne => by (try simp only [hN] at hb hne); simp (disch := first | omega | (simp only [hN] <;> omega) | fail) only [go_sem, simprocAttr]⟩
  refine inForm_spec (b := b) (hG.alloc _) ?_ ?_
  · intro h1 Q1 f1 hG1 hA
    have hn1 := f1.n; try simp only [hN] at hn1
    refine WF.code F52 rfl ?_
    have q1 : h1.get h.n = some ⟨0, .cells .own 0 cs⟩ := by simp (disch := first | omega | (simp only [hN] <;> omega) | fail) only [go_sem, simprocAttr, f1.old]
    have hrow : row cs 0 9 = some cs := row_all hl
    simp (disch := first | omega | (simp only [hN] <;> omega) | fail) only [go_sem, simprocAttr, q1, hrow]
    refine body _ _ ⟨by first | omega | (simp only [hN]; omega), fun b hb hne => by (try simp only [hN] at hb hne); simp (disch := first | omega | (simp only [hN] <;> omega) | fail) only [go_sem, simprocAttr, f1.old]⟩ (hG1.alloc _) ?_
    intro h2 f2
    have hn2 := f2.n; try simp only [hN] at hn2
    have := hA h2 ⟨by first | omega | (simp only [hN]; omega), fun b hb hne => by (try simp only [hN] at hb hne); simp (disch := first | omega | (simp only [hN] <;> omega) | fail) only [go_sem, simprocAttr, f2.old]⟩
    constructor
    · intro e
      simp (disch := first | omega | (simp only [hN] <;> omega) | fail) only [go_sem, simprocAttr]
      exact this.1 e
    · intro e
      simp (disch := first | omega | (simp only [hN] <;> omega) | fail) only [go_sem, simprocAttr, formStop]
      exact this.2 e
  · intro h1 f1
    have hn1 := f1.n; try simp only [hN] at hn1
    simp (disch := first | omega | (simp only [hN] <;> omega) | fail) only [go_sem, simprocAttr]
    exact hQ _ ⟨by first | omega | (simp only [hN]; omega), fun b hb hne => by (try simp only [hN] at hb hne); simp (disch := first | omega | (simp only [hN] <;> omega) | fail) only [go_sem, simprocAttr, f1.old]⟩

theorem gh_hq : GH hq := by
  have hn : hq.n = 21 + 17 := rfl
  refine ⟨by omega, fun g hg => ?_, fun g hg => ?_⟩
  · have := knG_lt hg
    rw [hq_get, if_pos (by omega), if_pos (by omega), if_pos hg]; rfl
  · have := knG_lt hg
    rw [hq_get, if_pos (by omega), if_neg (by omega), if_neg (by omega), Nat.add_sub_cancel_left, if_pos hg]

theorem words_law {s : Bs} {h : AHeap} (hlen : s.length < 2 ^ 62) (hL : LowEq hq h) (hG : GH h) : WF F 5 [.str s] h (fun r _ => r = .ret (.bool true)) := by
  refine WF.code F5 rfl ?_
  simp (disch := first | omega | (simp only [hN] <;> omega) | fail) only [go_sem, simprocAttr]
  refine alive_spec hL ?_
  simp (disch := first | omega | (simp only [hN] <;> omega) | fail) only [go_sem, simprocAttr]
  (first | refine kA (fun hb => ?_) (fun hb => ?_) | refine kB (fun hb => ?_) (fun hb => ?_) | refine kC (fun hb => ?_) (fun hb => ?_) | refine kD (fun hb => ?_) (fun hb => ?_) | refine kE (fun hb => ?_) (fun hb => ?_) | refine kF (fun hb => ?_) (fun hb => ?_))
  · simp (disch := first | omega | (simp only [hN] <;> omega) | fail) only [go_sem, simprocAttr]
  simp (disch := first | omega | (simp only [hN] <;> omega) | fail) only [go_sem, simprocAttr]
  have hb2 : ((h.alloc (.cells .own 9 (ndC (mtx s) .nilSlice))).get h.n) = some ⟨0, .cells .own 9 (ndC (mtx s) .nilSlice)⟩ := by simp (disch := first | omega | (simp only [hN] <;> omega) | fail) only [go_sem, simprocAttr]
  refine fcheck_spec (b := wordB s) (cs := ndC (.mk 1 0 [] 0 0 0 0 0 []) (.slice h.n 0 1 1 true)) (hG.alloc _) (by (first | (simp (disch := first | omega | (simp only [hN] <;> omega) | fail) only [go_sem, simprocAttr]; done) | (simp (disch := first | omega | (simp only [hN] <;> omega) | fail) only [go_sem, simprocAttr]; rfl))) rfl ?_ ?_
  · intro h1 Q1 f1 hG1 hA
    have hn1 := f1.n; try simp only [hN] at hn1
    exact fprog1_spec (ver := 0) hG1 hlen (by omega) (by rw [f1.all (by simp (disch := first | omega | (simp only [hN] <;> omega) | fail) only [go_sem, simprocAttr]; omega)]; exact hb2) hA
  · intro h1 f1
    have hn1 := f1.n; try simp only [hN] at hn1
    have hr := wordB_eq s
    cases hw : wordB s with
    | true =>
      simp (disch := first | omega | (simp only [hN] <;> omega) | fail) only [go_sem, simprocAttr, eqT, eqK]
      refine rword_spec hlen ?_
      intro h2 f2
      simp (disch := first | omega | (simp only [hN] <;> omega) | fail) only [go_sem, simprocAttr, eqT, eqK]
      rw [← hr, hw]
      rfl
    | false =>
      simp (disch := first | omega | (simp only [hN] <;> omega) | fail) only [go_sem, simprocAttr, eqT, eqK, errAV, errG]
      refine rword_spec hlen ?_
      intro h2 f2
      simp (disch := first | omega | (simp only [hN] <;> omega) | fail) only [go_sem, simprocAttr, eqT, eqK]
      rw [← hr, hw]
      rfl
end Go.Ev
