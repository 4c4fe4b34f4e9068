/- Rows of elements of a size: where an element's cells stand. -/
import Derived.Test.YtjfagfoekpnofaaDoorEvC
import Derived.Test.YtjfagfoekpnofaaDoorPDT
import Derived.Test.YtjfagfoekpnofaaDoorPuA
set_option linter.all false
set_option linter.unusedVariables false
set_option linter.unusedSimpArgs false
namespace Go.Ev
section
variable {α : Type} {f : α → List AV} {k : Nat}

theorem flat_len (hf : ∀ x, (f x).length = k) : ∀ l : List α, (l.flatMap f).length = l.length * k
  | [] => by simp
  | x :: l => by rw [List.flatMap_cons, List.length_append, hf, flat_len hf l, List.length_cons, Nat.succ_mul, Nat.add_comm]
theorem flat_drop (hf : ∀ x, (f x).length = k) : ∀ (l : List α) (i : Nat), (l.flatMap f).drop (i * k) = (l.drop i).flatMap f
  | l, 0 => by simp
  | [], i + 1 => by simp
  | x :: l, i + 1 => by
    rw [List.flatMap_cons, List.drop_succ_cons, ← flat_drop hf l i, Nat.succ_mul, Nat.add_comm, ← hf x, List.drop_append]
    simp
theorem flat_get (hf : ∀ x, (f x).length = k) {l : List α} {i j : Nat} {x : α} (hx : l[i]? = some x) (hj : j < k) : (l.flatMap f)[i * k + j]? = (f x)[j]? := by
  obtain ⟨hi, rfl⟩ := List.getElem?_eq_some_iff.1 hx
  rw [← List.getElem?_drop, flat_drop hf, List.drop_eq_getElem_cons hi, List.flatMap_cons, List.getElem?_append_left (by rw [hf]; exact hj)]
theorem flat_row (hf : ∀ x, (f x).length = k) {l : List α} {i : Nat} {x : α} (hx : l[i]? = some x) : row (l.flatMap f) (i * k) k = some (f x) := by
  obtain ⟨hi, rfl⟩ := List.getElem?_eq_some_iff.1 hx
  have hlen := flat_len hf l
  have hle : i * k + k ≤ (l.flatMap f).length := by
    rw [hlen, ← Nat.succ_mul]
    exact Nat.mul_le_mul_right k hi
  unfold row
  rw [Nat.ble_eq_true_of_le hle, flat_drop hf, List.drop_eq_getElem_cons hi, List.flatMap_cons, List.take_append_of_le_length (by rw [hf]; exact Nat.le_refl _), List.take_of_length_le (by rw [hf]; exact Nat.le_refl _)]
  rfl
theorem lay_one {vs : List AV} {o : Nat} {c : AV} (ho : o < vs.length) : lay vs o [c] = some (vs.set o c) := by
  unfold lay
  rw [Nat.ble_eq_true_of_le (show o + [c].length ≤ vs.length by simp only [List.length_cons, List.length_nil]; omega)]
  simp only [cond_true, List.length_cons, List.length_nil, Nat.zero_add]
  congr 1
  rw [List.set_eq_take_append_cons_drop, if_pos ho]
  rfl
end
end Go.Ev
/- Proofread: the first blocks of memory, the errors' numbers, frames. -/
namespace Go.Ev
open Go
set_option maxRecDepth 100000
set_option maxHeartbeats 4000000

/-- A heap that goes on: all old blocks but one are as they were. -/
structure Fr (r : Nat) (h h' : AHeap) : Prop where
  n : h.n ≤ h'.n
  old : ∀ b, b < h.n → b ≠ r → h'.get b = h.get b
theorem Fr.refl (r : Nat) (h : AHeap) : Fr r h h := ⟨Nat.le_refl _, fun _ _ _ => rfl⟩
theorem Fr.trans {r : Nat} {h h1 h2 : AHeap} (a : Fr r h h1) (b : Fr r h1 h2) : Fr r h h2 := ⟨Nat.le_trans a.n b.n, fun x hx hn => (b.old x (Nat.lt_of_lt_of_le hx a.n) hn).trans (a.old x hx hn)⟩
theorem Fr.upd {r : Nat} (h : AHeap) (v : Nat) (o : AObj) : Fr r h (h.upd r v o) := ⟨Nat.le_refl _, fun b _ hb => by rw [AHeap.get_upd, if_neg hb]⟩
theorem Fr.updNew {r b : Nat} {h h1 : AHeap} (f : Fr r h h1) (hb : h.n ≤ b) (v : Nat) (o : AObj) : Fr r h (h1.upd b v o) := ⟨f.n, fun x hx hn => by rw [AHeap.get_upd, if_neg (by omega)]; exact f.old x hx hn⟩
theorem useB {Q : QR} {h : AHeap} {a b : Bool} (hQ : Q (.ret (.bool a)) h) (e : a = b) : Q (.ret (.bool b)) h := e ▸ hQ
theorem Fr.alloc {r : Nat} {h h1 : AHeap} (f : Fr r h h1) (o : AObj) : Fr r h (h1.alloc o) := ⟨Nat.le_succ_of_le f.n, fun b hb hn => by rw [AHeap.get_alloc, if_neg (by have := f.n; omega)]; exact f.old b hb hn⟩

theorem Fr.all {h h' : AHeap} (f : Fr h.n h h') {b : Nat} (hb : b < h.n) : h'.get b = h.get b := f.old b hb (Nat.ne_of_lt hb)
theorem Fr.any {h h' : AHeap} {r b : Nat} (f : Fr b h h') (hb : h.n ≤ b) : Fr r h h' := ⟨f.n, fun c hc _ => f.old c hc (by omega)⟩
/-- The errors' texts, by the variables' numbers. -/
def txts : List Bs := [[115, 116, 111, 99, 107, 97, 100, 101, 58, 32, 99, 111, 100, 101], [115, 116, 111, 99, 107, 97, 100, 101, 58, 32, 114, 97, 110, 103, 101], [115, 116, 111, 99, 107, 97, 100, 101, 58, 32, 116, 101, 120, 116], [115, 116, 111, 99, 107, 97, 100, 101, 58, 32, 100, 101, 112, 116, 104], [115, 116, 111, 99, 107, 97, 100, 101, 58, 32, 110, 97, 109, 101], [115, 116, 111, 99, 107, 97, 100, 101, 58, 32, 116, 121, 112, 101], [115, 116, 111, 99, 107, 97, 100, 101, 58, 32, 108, 97, 114, 103, 101], [115, 116, 111, 99, 107, 97, 100, 101, 58, 32, 102, 117, 108, 108], [115, 116, 111, 99, 107, 97, 100, 101, 58, 32, 110, 111, 110, 101], [115, 116, 111, 99, 107, 97, 100, 101, 58, 32, 115, 116, 97, 116, 101], [115, 116, 111, 99, 107, 97, 100, 101, 58, 32, 102, 114, 97, 109, 101], [115, 116, 111, 99, 107, 97, 100, 101, 58, 32, 109, 97, 99], [115, 116, 111, 99, 107, 97, 100, 101, 58, 32, 114, 101, 112, 108, 97, 121], [115, 116, 111, 99, 107, 97, 100, 101, 58, 32, 97, 114, 101, 110, 97], [115, 116, 111, 99, 107, 97, 100, 101, 58, 32, 99, 108, 111, 99, 107], [115, 116, 111, 99, 107, 97, 100, 101, 58, 32, 113, 117, 111, 116, 97], [115, 116, 111, 99, 107, 97, 100, 101, 58, 32, 116, 101, 110, 97, 110, 116]]
def txt (g : Nat) : Bs := txts.getD g []
/-- The variable of an error's number. -/
def gi (e : Nat) : Nat := if e = 9 then 0 else if e ≤ 8 then e else e - 1
def errG (g : Nat) : AV := .iface 99 (.ptr (17 + g) 0)
def errAV (e : Nat) : AV := errG (gi e)
@[go_sem] theorem cells_err {e : Nat} : AV.cells (errAV e) = [errAV e] := Eq.trans rfl rfl
@[go_sem] theorem flat_err {e : Nat} : AV.flat (errAV e) = true := Eq.trans rfl rfl
@[go_sem] theorem cells_errG {e : Nat} : AV.cells (errG e) = [errG e] := Eq.trans rfl rfl
@[go_sem] theorem flat_errG {e : Nat} : AV.flat (errG e) = true := Eq.trans rfl rfl
@[go_sem] theorem eqT_err {e : Nat} : eqT (.one .iface) (errAV e) .nilIface = some false := Eq.trans rfl rfl
@[go_sem] theorem eqT_nil : eqT (.one .iface) .nilIface .nilIface = some true := Eq.trans rfl rfl
/-- The first blocks: the variables and their errors. -/
structure GH (h : AHeap) : Prop where
  n : 17 + 17 ≤ h.n
  gl : ∀ g, g < 17 → h.get g = some ⟨0, .cells .ro 0 [errG g]⟩
  st : ∀ g, g < 17 → h.get (17 + g) = some ⟨0, .cells .sent 0 [.str (txt g)]⟩
theorem Fr.gh {r : Nat} {h h' : AHeap} (f : Fr r h h') (hr : 17 + 17 ≤ r) (g : GH h) : GH h' :=
  ⟨Nat.le_trans g.n f.n, fun i hi => by rw [f.old _ (by have := g.n; omega) (by omega)]; exact g.gl i hi, fun i hi => by rw [f.old _ (by have := g.n; omega) (by omega)]; exact g.st i hi⟩
theorem GH.alloc {h : AHeap} (g : GH h) (o : AObj) : GH (h.alloc o) := (Fr.alloc (Fr.refl h.n h) o).gh g.n g
theorem GH.upd {h : AHeap} (g : GH h) {b : Nat} (hb : 17 + 17 ≤ b) (v : Nat) (o : AObj) : GH (h.upd b v o) := (Fr.upd h v o).gh hb g

/-- Where a word stands in a list: -1, if it doesn't. -/
def findW (w : Bs) : List Bs → Nat → Int
  | [], _ => -1
  | x :: r, i => bif w == x then i else findW w r (i + 1)
theorem sIndex {ws : List Bs} {w : Bs} {b ver cap : Nat} {ex : Bool} {md : Md} {h : AHeap} (hb : h.get b = some ⟨ver, .cells md 1 (ws.map .str)⟩) (hl : ws.length < 2 ^ 62) {Q : QR} (hQ : Q (.ret (.int .i64 (findW w ws 0))) h) : WF F 50 [.slice b 0 ws.length cap ex, .str w] h Q := by
  refine WF.code F50 rfl ?_
  simp (disch := first | omega | (simp only [hN] <;> omega) | fail) only [go_sem, simprocAttr]
  refine wp_loop (fun n a h1 => ∃ i : Nat, n = ws.length - i ∧ i ≤ ws.length ∧ h1 = h ∧ findW w ws 0 = findW w (ws.drop i) i ∧ a.tm.get 0 = some (.slice b 0 ws.length cap ex) ∧ a.tm.get 1 = some (.str w) ∧ a.tm.get 7 = some (.int .i64 (ws.length : Int)) ∧ a.tm.get 8 = some (.int .i64 (i : Int)) ∧ a.df = []) ?_ ws.length ⟨0, rfl, Nat.zero_le _, rfl, rfl, by simp (disch := first | omega | (simp only [hN] <;> omega) | fail) only [go_sem, simprocAttr], by simp (disch := first | omega | (simp only [hN] <;> omega) | fail) only [go_sem, simprocAttr], by simp (disch := first | omega | (simp only [hN] <;> omega) | fail) only [go_sem, simprocAttr], by (first | (simp (disch := first | omega | (simp only [hN] <;> omega) | fail) only [go_sem, simprocAttr]; done) | (simp (disch := first | omega | (simp only [hN] <;> omega) | fail) only [go_sem, simprocAttr]; rfl)), rfl⟩
  rintro n ⟨t, df⟩ h1 ⟨i, hn, hi, rfl, hf, g0, g1, g7, g8, hdf⟩
  simp only at g0 g1 g7 g8 hdf
  subst hdf
  simp (disch := first | omega | (simp only [hN] <;> omega) | fail) only [go_sem, simprocAttr, g0, g1, g7, g8]
  (first | refine kA (fun hc => ?_) (fun hc => ?_) | refine kB (fun hc => ?_) (fun hc => ?_) | refine kC (fun hc => ?_) (fun hc => ?_) | refine kD (fun hc => ?_) (fun hc => ?_) | refine kE (fun hc => ?_) (fun hc => ?_) | refine kF (fun hc => ?_) (fun hc => ?_))
  · have hlt : i < ws.length := by simpa using hc
    have hd : ws.drop i = ws[i] :: ws.drop (i + 1) := List.drop_eq_getElem_cons hlt
    have hg : (ws.map AV.str)[i]? = some (.str ws[i]) := by simp [hlt]
    rw [hd] at hf
    have hlt' : ((i : Int) < (ws.length : Int)) = True := by simp [hlt]
    simp (disch := first | omega | (simp only [hN] <;> omega) | fail) only [go_sem, simprocAttr, g0, g1, g7, g8, hc, hlt', hb, Nat.mul_one, hg]
    (first | refine kA (fun he => ?_) (fun he => ?_) | refine kB (fun he => ?_) (fun he => ?_) | refine kC (fun he => ?_) (fun he => ?_) | refine kD (fun he => ?_) (fun he => ?_) | refine kE (fun he => ?_) (fun he => ?_) | refine kF (fun he => ?_) (fun he => ?_))
    · simp (disch := first | omega | (simp only [hN] <;> omega) | fail) only [go_sem, simprocAttr, g0, g1, g7, g8, hc]
      simp only [findW, he, cond_true] at hf
      rw [← hf]; exact hQ
    · simp (disch := first | omega | (simp only [hN] <;> omega) | fail) only [go_sem, simprocAttr, g0, g1, g7, g8, hc]
      simp only [findW, he, cond_false] at hf
      refine ⟨ws.length - (i + 1), by omega, i + 1, rfl, by omega, hf, ?_⟩
      rfl
  · have hge : ws.length ≤ i := by simpa using hc
    have e : ws.drop i = [] := List.drop_eq_nil_of_le hge
    rw [e] at hf
    simp (disch := first | omega | (simp only [hN] <;> omega) | fail) only [go_sem, simprocAttr, hc]
    simp only [findW] at hf
    rw [← hf]; exact hQ
theorem findW_contains (w : Bs) : ∀ (ws : List Bs) (i : Nat), decide (findW w ws i ≥ 0) = ws.contains w
  | [], i => rfl
  | x :: r, i => by
    have ih := findW_contains w r (i + 1)
    by_cases e : w = x
    · have h1 : findW w (x :: r) i = i := by simp [findW, e]
      rw [h1]; simp [e]
    · have e' : (w == x) = false := beq_eq_false_iff_ne.2 e
      have h1 : findW w (x :: r) i = findW w r (i + 1) := by simp only [findW, e', cond_false]
      rw [h1, ih]; simp [e]
theorem sContains {ws : List Bs} {w : Bs} {b ver cap : Nat} {ex : Bool} {md : Md} {h : AHeap} (hb : h.get b = some ⟨ver, .cells md 1 (ws.map .str)⟩) (hl : ws.length < 2 ^ 62) {Q : QR} (hQ : Q (.ret (.bool (ws.contains w))) h) : WF F 48 [.slice b 0 ws.length cap ex, .str w] h Q := by
  refine WF.code F48 rfl ?_
  simp (disch := first | omega | (simp only [hN] <;> omega) | fail) only [go_sem, simprocAttr]
  refine sIndex hb hl ?_
  simp (disch := first | omega | (simp only [hN] <;> omega) | fail) only [go_sem, simprocAttr]
  exact useB hQ (findW_contains _ _ _).symm
def numGs : List Nat := [1, 2, 3, 4, 5, 6, 7, 8, 0, 9, 10, 11, 12, 13, 14, 15, 16]
theorem numGs_get : ∀ i, i < 17 → numGs[i]? = some (gi (i + 1)) := by decide
theorem gi_lt : ∀ e, 1 ≤ e → e ≤ 17 → gi e < 17 := by intro e h1 h2; unfold gi; (try split) <;> (try split) <;> omega
theorem gi_inj {e e' : Nat} (h1 : 1 ≤ e) (h3 : 1 ≤ e') (h : gi e = gi e') : e = e' := by
  unfold gi at h
  (try split at h) <;> (try split at h) <;> (try split at h) <;> (try split at h) <;> omega
theorem txt_inj : ∀ g, g < 17 → ∀ g', g' < 17 → g ≠ g' → txt g ≠ txt g' := by decide
theorem pIs_eq {h : AHeap} (hG : GH h) {e e' : Nat} (h1 : 1 ≤ e) (h2 : e ≤ 17) (h3 : 1 ≤ e') (h4 : e' ≤ 17) : pIs [errAV e, errAV e'] h = some (.ret (.bool (decide (e = e'))), h) := by
  have a1 := hG.st _ (gi_lt e h1 h2)
  have a2 := hG.st _ (gi_lt e' h3 h4)
  simp only [errAV, errG, pIs, Nat.beq_refl, Bool.and_true, cond_true, a1, a2]
  by_cases he : e = e'
  · subst he
    simp [beq_nat]
  · have hg : gi e ≠ gi e' := fun q => he (gi_inj h1 h3 q)
    have ht : (txt (gi e) == txt (gi e')) = false := beq_eq_false_iff_ne.2 (txt_inj _ (gi_lt e h1 h2) _ (gi_lt e' h3 h4) hg)
    simp [beq_nat, ht, he, hg]
theorem num_spec {h : AHeap} (hG : GH h) {e : Nat} (h1 : 1 ≤ e) (h2 : e ≤ 17) {Q : QR} (hQ : ∀ h', Fr h.n h h' → Q (.ret (.int .i64 (e : Int))) h') : WF F 13 [errAV e] h Q := by
  refine WF.code F13 rfl ?_
  simp (disch := first | omega | (simp only [hN] <;> omega) | fail) only [go_sem, simprocAttr, hG.gl]
  refine wp_loop (fun n a h' => ∃ i : Nat, n = 17 - i ∧ i < e ∧ h' = h.alloc (.cells .own 1 (numGs.map errG)) ∧ a.tm.get 0 = some (errAV e) ∧ a.tm.get 26 = some (.slice h.n 0 17 17 true) ∧ a.tm.get 27 = some (.int .i64 17) ∧ a.tm.get 28 = some (.int .i64 (i : Int)) ∧ a.df = []) ?_ 17 ?_
  · rintro n ⟨t, df⟩ h' ⟨i, hn, hi, rfl, k0, k26, k27, k28, hdf⟩
    simp only at k0 k26 k27 k28 hdf
    subst hdf
    have hG1 := hG.alloc (.cells .own 1 (numGs.map errG))
    have hlt : ((i : Int) < 17) = True := by simp; omega
    have hlt2 : ((i : Int) < ((17 : Nat) : Int)) = True := by simp; omega
    have hg : (numGs.map errG)[i]? = some (errAV (i + 1)) := by rw [List.getElem?_map, numGs_get i (by omega)]; rfl
    simp (disch := first | omega | (simp only [hN] <;> omega) | fail) only [go_sem, simprocAttr, k0, k26, k27, k28, hlt, hlt2, Nat.mul_one, hg]
    refine WF.prim F22 (pIs_eq hG1 h1 h2 (by omega) (by omega)) ?_
    simp (disch := first | omega | (simp only [hN] <;> omega) | fail) only [go_sem, simprocAttr]
    (first | refine kA (fun he => ?_) (fun he => ?_) | refine kB (fun he => ?_) (fun he => ?_) | refine kC (fun he => ?_) (fun he => ?_) | refine kD (fun he => ?_) (fun he => ?_) | refine kE (fun he => ?_) (fun he => ?_) | refine kF (fun he => ?_) (fun he => ?_))
    · have he' : e = i + 1 := of_decide_eq_true he
      simp (disch := first | omega | (simp only [hN] <;> omega) | fail) only [go_sem, simprocAttr, k28]
      subst he'
      exact hQ _ (Fr.alloc (Fr.refl _ _) _)
    · have he' : ¬ e = i + 1 := of_decide_eq_false he
      simp (disch := first | omega | (simp only [hN] <;> omega) | fail) only [go_sem, simprocAttr, k0, k26, k27, k28]
      exact ⟨_, by omega, i + 1, rfl, by omega, rfl⟩
  · simp (disch := first | omega | (simp only [hN] <;> omega) | fail) only [go_sem, simprocAttr]
    exact ⟨0, rfl, by omega, rfl, rfl⟩
end Go.Ev
