/- Arguments of ints, strings, structs and slices: how they lie in the first heap. -/
import Derived.Test.YtmlgcmeccofopaaGreatDoorEvC
import Derived.ChangeArms
import Derived.DataReads
import Derived.Carry
set_option linter.all false
set_option linter.unusedVariables false
set_option linter.unusedSimpArgs false
namespace Go.Ev
open Go

/-- What stands on a heap goes on. -/
structure Ext (ι : Mp) (h : AHeap) (ι' : Mp) (h' : AHeap) : Prop where
  n : h.n ≤ h'.n
  old : ∀ b, b < h.n → h'.get b = h.get b
  ext : ∀ b x, ι b = some x → ι' b = some x
theorem Ext.refl (ι : Mp) (h : AHeap) : Ext ι h ι h := ⟨Nat.le_refl _, fun _ _ => rfl, fun _ _ e => e⟩
theorem Ext.trans {ι ι' ι'' : Mp} {h h' h'' : AHeap} (a : Ext ι h ι' h') (b : Ext ι' h' ι'' h'') : Ext ι h ι'' h'' :=
  ⟨Nat.le_trans a.n b.n, fun c hc => (b.old c (Nat.lt_of_lt_of_le hc a.n)).trans (a.old c hc), fun c x e => b.ext c x (a.ext c x e)⟩
theorem Ext.info {ι ι' : Mp} {h h' : AHeap} (e : Ext ι h ι' h') {b : Nat} (hb : b < h.n) : infoOf h'.get b = infoOf h.get b := by unfold infoOf; rw [e.old b hb]
theorem info_lt {ι : Mp} {h : AHeap} {W : World} (r : Rel ι h W) {b : Nat} (hd : infoOf h.get b = .dead) : b < h.n := by
  unfold infoOf at hd
  split at hd
  · rename_i x hx; exact r.lt b x hx
  · cases hd
theorem Ext.grow {ι ι' : Mp} {h h' : AHeap} {W : World} (e : Ext ι h ι' h') (r : Rel ι h W) (sz : Nat → Nat) : Grow ι (infoOf h.get) sz ι' (infoOf h'.get) sz where
  ext := e.ext
  dead b hd := by rw [e.info (info_lt r hd)]; exact hd
  live b o f s x hx hl := by rw [e.info (r.dom b x.1 x.2 hx)]; exact .inl hl
  sz _ := Nat.le_refl _
def NoOwn (h : AHeap) : Prop := ∀ b, ¬ OwnL h b

/-- A row that is read alone is laid. -/
theorem lay_ro {ι : Mp} {h : AHeap} {W : World} (r : Rel ι h W) (no : NoOwn h) {c p es : Nat} {vs : List AV} (hc : c < W.heap.size) (ho : ORel ι (infoOf h.get) (wsz W) W c p (.cells .ro es vs)) :
    ∃ ι', Ext ι h ι' (h.alloc (.cells .ro es vs)) ∧ Rel ι' (h.alloc (.cells .ro es vs)) W ∧ NoOwn (h.alloc (.cells .ro es vs)) ∧ ι' h.n = some (c, p) := by
  have hno : ∀ x, ι h.n ≠ some x := fun x e => Nat.lt_irrefl _ (r.dom h.n x.1 x.2 e)
  let ι' : Mp := fun b => if b = h.n then some (c, p) else ι b
  have hi : ∀ b, ι' b = if b = h.n then some (c, p) else ι b := fun _ => rfl
  have e : Ext ι h ι' (h.alloc (.cells .ro es vs)) := ⟨by simp, fun b hb => by rw [AHeap.get_alloc, if_neg (by omega)], fun b x hx => by
    rw [hi, if_neg (by rintro rfl; exact hno x hx)]; exact hx⟩
  have hinf : ∀ b, b ≠ h.n → infoOf (h.alloc (.cells .ro es vs)).get b = infoOf h.get b := fun b hb => by unfold infoOf; rw [AHeap.get_alloc, if_neg hb]
  have hnew : infoOf (h.alloc (.cells .ro es vs)).get h.n = .live false false es := by unfold infoOf; rw [AHeap.get_alloc, if_pos rfl]; rfl
  have no' : NoOwn (h.alloc (.cells .ro es vs)) := by
    rintro b ⟨f, s, hb⟩
    by_cases e1 : b = h.n
    · subst e1; rw [hnew] at hb; cases hb
    · rw [hinf b e1] at hb; exact no b ⟨f, s, hb⟩
  refine ⟨ι', e, ?_, no', by rw [hi, if_pos rfl]⟩
  exact {
    dom := fun b c' p' hb => by
      rw [hi] at hb
      split at hb
      · simp only [AHeap.alloc_n]; omega
      · have := r.dom b c' p' hb; simp only [AHeap.alloc_n]; omega
    lt := fun b x hb => by
      rw [AHeap.get_alloc] at hb
      split at hb
      · simp only [AHeap.alloc_n]; omega
      · have := r.lt b x hb; simp only [AHeap.alloc_n]; omega
    obj := fun b c' p' hb => by
      rw [hi] at hb
      by_cases e1 : b = h.n
      · rw [if_pos e1] at hb
        cases hb
        exact ⟨⟨0, .cells .ro es vs⟩, by rw [AHeap.get_alloc, if_pos e1], hc, ORel.mono (e.grow r _) rfl ho⟩
      · rw [if_neg e1] at hb
        obtain ⟨x, hx, h1, h2⟩ := r.obj b c' p' hb
        exact ⟨x, by rw [AHeap.get_alloc, if_neg e1]; exact hx, h1, ORel.mono (e.grow r _) rfl h2⟩
    inj := fun b b' c' p' p'' _ _ ow _ => absurd ow (no' b) }

/-- Types of ints, strings, bools, structs and slices alone, laid one behind the other. -/
def layB (P : Program) (S : List TypeId) (tot : Nat) : Nat → List Field → Bool
  | off, [] => off == tot
  | off, f :: r => f.offset == off && S.contains f.type && layB P S tot (off + P.cellsOf f.type) r
def plainT (P : Program) (S : List TypeId) : Bool := S.all fun t => match P.underlying t with
  | some (.int _) => P.cellsOf t == 1
  | some .string => P.cellsOf t == 1
  | some .bool => P.cellsOf t == 1
  | some (.slice e) => S.contains e && P.cellsOf t == 1 && decide (0 < P.cellsOf e)
  | some (.struct fs) => layB P S (P.cellsOf t) 0 fs.toList
  | _ => false

section
variable {H : Type}
/-- Data in a heap, by their types. -/
inductive DatR (P : Program) (h : AHeap) : TypeId → DataW H → List AV → Prop
  | int {t : TypeId} {k : IntKind} {n : Int} : P.underlying t = some (.int k) → (Lit.int k n).wf = true → DatR P h t (.lit (.int k n)) [.int k n]
  | str {t : TypeId} {s : List UInt8} : P.underlying t = some .string → s.length ≤ maxLen → DatR P h t (.lit (.string s)) [.str s]
  | bool {t : TypeId} {b : Bool} : P.underlying t = some .bool → DatR P h t (.lit (.bool b)) [.bool b]
  | nil {t e : TypeId} : P.underlying t = some (.slice e) → DatR P h t .nil [.nilSlice]
  | emp {t e : TypeId} {b cap : Nat} {rest : List (DataW H)} : P.underlying t = some (.slice e) → DatR P h t (.slice [] rest) [.slice b 0 0 cap true]
  | slice {t e : TypeId} {b cap : Nat} {ds rest : List (DataW H)} {cs : List AV} : P.underlying t = some (.slice e) → ds ≠ [] → (ds.length ≤ maxLen ∧ ds.length ≤ cap) → b < h.n → h.get b = some ⟨0, .cells .ro (P.cellsOf e) cs⟩ →
      cs.length = ds.length * P.cellsOf e → (∀ (i : Nat) (d : DataW H), ds[i]? = some d → DatR P h e d ((cs.drop (i * P.cellsOf e)).take (P.cellsOf e))) → DatR P h t (.slice ds rest) [.slice b 0 ds.length cap true]
  | agg {t : TypeId} {fs : Array Field} {ds : List (DataW H)} {cs : List AV} : P.underlying t = some (.struct fs) → cs.length = P.cellsOf t → ds.length = fs.size →
      (∀ (i : Nat) (f : Field) (d : DataW H), fs[i]? = some f → ds[i]? = some d → DatR P h f.type d ((cs.drop f.offset).take (P.cellsOf f.type))) → DatR P h t (.agg ds) cs
theorem DatR.keep {P : Program} {h h' : AHeap} (hn : h.n ≤ h'.n) (f : ∀ b, b < h.n → h'.get b = h.get b) {t : TypeId} {d : DataW H} {cs : List AV} (r : DatR P h t d cs) : DatR P h' t d cs := by
  induction r with
  | int h1 h2 => exact .int h1 h2
  | str h1 h2 => exact .str h1 h2
  | bool h1 => exact .bool h1
  | nil h1 => exact .nil h1
  | emp h1 => exact .emp h1
  | slice h1 h2 h3 h4 h5 h6 _ ih => exact .slice h1 h2 h3 (Nat.lt_of_lt_of_le h4 hn) ((f _ h4).trans h5) h6 ih
  | agg h1 h2 h3 _ ih => exact .agg h1 h2 h3 ih

variable {enc : TypeId × Value → H} {P : Program} {W : World} {base : Nat} {spare : Nat → Bool} {held : Bool}
/-- What is to be shown of a reading. -/
def Opens (P : Program) (W : World) (z : Nat) (t : TypeId) (cs : List Value) (d : DataW H) : Prop :=
  ∀ (ι : Mp) (h : AHeap), Rel ι h W → NoOwn h → infoOf h.get z = .dead → ∃ (ι' : Mp) (h' : AHeap) (vs : List AV), Ext ι h ι' h' ∧ Rel ι' h' W ∧ NoOwn h' ∧ VRL ι' (infoOf h'.get) (wsz W) vs cs ∧ DatR P h' t d vs

theorem opens_fields {z : Nat} {S : List TypeId} {tot : Nat} {cs : List Value} (hcs : cs.length = tot) : ∀ (fs : List Field) (ds : List (DataW H)) (off : Nat), layB P S tot off fs = true → ds.length = fs.length →
    (∀ (i : Nat) (f : Field) (d : DataW H), fs[i]? = some f → ds[i]? = some d → Opens P W z f.type ((cs.drop f.offset).take (P.cellsOf f.type)) d) →
    ∀ (ι : Mp) (h : AHeap), Rel ι h W → NoOwn h → infoOf h.get z = .dead → ∃ (ι' : Mp) (h' : AHeap) (vs : List AV), Ext ι h ι' h' ∧ Rel ι' h' W ∧ NoOwn h' ∧ VRL ι' (infoOf h'.get) (wsz W) vs (cs.drop off) ∧ off ≤ tot ∧
      ∀ (i : Nat) (f : Field) (d : DataW H), fs[i]? = some f → ds[i]? = some d → off ≤ f.offset ∧ DatR P h' f.type d ((vs.drop (f.offset - off)).take (P.cellsOf f.type))
  | [], ds, off, hl, hd, _, ι, h, r, no, hz => by
    simp only [layB, beq_iff_eq] at hl
    refine ⟨ι, h, [], Ext.refl _ _, r, no, ?_, by omega, fun i f d hf => by simp at hf⟩
    rw [List.drop_of_length_le (by omega)]
    simp [VRL]
  | f :: fs, [], off, hl, hd, _, ι, h, r, no, hz => by simp at hd
  | f :: fs, d :: ds, off, hl, hd, hO, ι, h, r, no, hz => by
    simp only [layB, Bool.and_eq_true, beq_iff_eq] at hl
    obtain ⟨⟨h1, h2⟩, h3⟩ := hl
    obtain ⟨ι1, h1', vs1, e1, r1, no1, v1, d1⟩ := hO 0 f d rfl rfl ι h r no hz
    have hz1 : infoOf h1'.get z = .dead := by rw [e1.info (info_lt r hz)]; exact hz
    obtain ⟨ι2, h2', vs2, e2, r2, no2, v2, hle, d2⟩ := opens_fields hcs fs ds (off + P.cellsOf f.type) h3 (by simpa using hd) (fun i f' d' hf hd' => hO (i + 1) f' d' (by simpa using hf) (by simpa using hd')) ι1 h1' r1 no1 hz1
    have hlen : vs1.length = P.cellsOf f.type := by
      rw [v1.length, List.length_take, List.length_drop]; omega
    refine ⟨ι2, h2', vs1 ++ vs2, e1.trans e2, r2, no2, ?_, by omega, ?_⟩
    · have := (VRL.mono (e2.grow r1 _) _ _ v1).append v2
      rw [h1] at this
      have hs : (cs.drop off).take (P.cellsOf f.type) ++ cs.drop (off + P.cellsOf f.type) = cs.drop off := by
        rw [← List.drop_drop, List.take_append_drop]
      rw [hs] at this
      exact this
    · intro i f' d' hf hd'
      cases i with
      | zero =>
        simp only [List.getElem?_cons_zero, Option.some.injEq] at hf hd'
        subst hf hd'
        refine ⟨by omega, ?_⟩
        rw [h1, Nat.sub_self, List.drop_zero, List.take_append_of_le_length (by omega), List.take_of_length_le (by omega)]
        exact d1.keep e2.n e2.old
      | succ i =>
        simp only [List.getElem?_cons_succ] at hf hd'
        obtain ⟨g1, g2⟩ := d2 i f' d' hf hd'
        refine ⟨by omega, ?_⟩
        have : f'.offset - off = vs1.length + (f'.offset - (off + P.cellsOf f.type)) := by omega
        rw [this, List.drop_append, List.drop_of_length_le (by omega), List.nil_append, Nat.add_sub_cancel_left]
        exact g2
theorem opens_elems {z : Nat} {e : TypeId} {sz : Nat} {f : Nat → Option Value} (hsz : P.cellsOf e = sz) : ∀ (ds : List (DataW H)) (k : Nat),
    (∀ (i : Nat) (d : DataW H), ds[i]? = some d → ∃ cs : List Value, cs.length = sz ∧ (∀ j, j < sz → cs[j]? = f ((k + i) * sz + j)) ∧ Opens P W z e cs d) →
    ∀ (ι : Mp) (h : AHeap), Rel ι h W → NoOwn h → infoOf h.get z = .dead → ∃ (ι' : Mp) (h' : AHeap) (vs : List AV), Ext ι h ι' h' ∧ Rel ι' h' W ∧ NoOwn h' ∧ vs.length = ds.length * sz ∧
      (∀ (j : Nat) (x : AV), vs[j]? = some x → ∃ v, f (k * sz + j) = some v ∧ VR ι' (infoOf h'.get) (wsz W) x v) ∧
      ∀ (i : Nat) (d : DataW H), ds[i]? = some d → DatR P h' e d ((vs.drop (i * sz)).take sz)
  | [], k, _, ι, h, r, no, hz => ⟨ι, h, [], Ext.refl _ _, r, no, by simp, fun j x hx => by simp at hx, fun i d hd => by simp at hd⟩
  | d :: ds, k, hO, ι, h, r, no, hz => by
    obtain ⟨cs, hcl, hcf, ho⟩ := hO 0 d rfl
    obtain ⟨ι1, h1, vs1, e1, r1, no1, v1, d1⟩ := ho ι h r no hz
    have hz1 : infoOf h1.get z = .dead := by rw [e1.info (info_lt r hz)]; exact hz
    obtain ⟨ι2, h2, vs2, e2, r2, no2, l2, v2, d2⟩ := opens_elems hsz ds (k + 1) (fun i d' hd => by
      obtain ⟨cs', g1, g2, g3⟩ := hO (i + 1) d' (by simpa using hd)
      exact ⟨cs', g1, fun j hj => by rw [g2 j hj, show k + (i + 1) = k + 1 + i by omega], g3⟩) ι1 h1 r1 no1 hz1
    have hlen : vs1.length = sz := v1.length.trans hcl
    refine ⟨ι2, h2, vs1 ++ vs2, e1.trans e2, r2, no2, ?_, ?_, ?_⟩
    · rw [List.length_append, l2, hlen, List.length_cons, Nat.succ_mul]; omega
    · intro j x hx
      by_cases hj : j < sz
      · rw [List.getElem?_append_left (by omega)] at hx
        obtain ⟨v, hv, hr⟩ := v1.get j x hx
        refine ⟨v, ?_, VR.mono (e2.grow r1 _) _ _ hr⟩
        rw [← hv, hcf j hj, Nat.add_zero]
      · rw [List.getElem?_append_right (by omega), hlen] at hx
        obtain ⟨v, hv, hr⟩ := v2 (j - sz) x hx
        refine ⟨v, ?_, hr⟩
        rw [← hv]
        congr 1
        rw [Nat.succ_mul]; omega
    · intro i d' hd
      cases i with
      | zero =>
        simp only [List.getElem?_cons_zero, Option.some.injEq] at hd
        subst hd
        rw [Nat.zero_mul, List.drop_zero, List.take_append_of_le_length (by omega), List.take_of_length_le (by omega)]
        exact d1.keep e2.n e2.old
      | succ i =>
        simp only [List.getElem?_cons_succ] at hd
        have : (i + 1) * sz = vs1.length + i * sz := by rw [Nat.succ_mul]; omega
        rw [this, List.drop_append, List.drop_of_length_le (by omega), List.nil_append, Nat.add_sub_cancel_left]
        exact d2 i d' hd
theorem opens_plain {z : Nat} {S : List TypeId} (hS : plainT P S = true) : ∀ (fuel : Nat) (t : TypeId) (cs : List Value) (x : DataW H × List MemPlace), t ∈ S → DataW.trod enc P W base spare held fuel t cs = some x → Opens P W z t cs x.1 := by
  intro fuel
  induction fuel with
  | zero => intro t cs x _ h; simp [DataW.trod] at h
  | succ n ih =>
    intro t cs x ht hx
    have hp := List.all_eq_true.1 hS t ht
    cases hu : P.underlying t with
    | none => rw [hu] at hp; cases hp
    | some u =>
      rw [hu] at hp
      cases u with
      | int k =>
        obtain ⟨m, rfl, rfl, hw⟩ := DataW.trod_int hu hx
        intro ι h r no hz
        exact ⟨ι, h, [.int k m], Ext.refl _ _, r, no, by simp only [VRL, VR]; exact ⟨_, _, rfl, rfl, rfl⟩, .int hu hw⟩
      | string =>
        obtain ⟨s, rfl, rfl, hw⟩ := DataW.trod_string hu hx
        intro ι h r no hz
        exact ⟨ι, h, [.str s.data.toList], Ext.refl _ _, r, no, by simp only [VRL, VR]; exact ⟨_, _, rfl, rfl, rfl⟩, .str hu (by simpa using hw)⟩
      | bool =>
        intro ι h r no hz
        rw [DataW.trod_step] at hx
        unfold DataW.trodStep at hx
        rw [hu] at hx
        split at hx
        all_goals first | (rename_i h1; cases h1; done) | skip
        all_goals (try (cases hx))
        all_goals simp_all
        exact ⟨ι, h, Ext.refl _ _, r, no, [.bool _], by simp only [VRL, VR]; exact ⟨_, _, rfl, rfl, rfl⟩, .bool hu⟩
      | slice e =>
        simp only [Bool.and_eq_true, beq_iff_eq, decide_eq_true_eq] at hp
        obtain ⟨⟨he, _⟩, hpos⟩ := hp
        have he : e ∈ S := by simpa using he
        rcases DataW.trod_slice hu hx with ⟨rfl, rfl⟩ | ⟨a, len, cap, elems, rest, n', hn', rfl, rfl, hb, hlc, hcm, hel, hgt, _, _⟩
        · intro ι h r no hz
          exact ⟨ι, h, [.nilSlice], Ext.refl _ _, r, no, by simp only [VRL, VR]; exact ⟨_, _, rfl, rfl, rfl⟩, .nil hu⟩
        · cases hn'
          intro ι h r no hz
          by_cases h0 : len = 0
          · have : elems = [] := List.length_eq_zero_iff.1 (by omega)
            subst this
            subst h0
            refine ⟨ι, h, [.slice z 0 0 cap true], Ext.refl _ _, r, no, ?_, .emp hu⟩
            simp only [VRL, VR]
            exact ⟨_, _, rfl, ⟨_, _, rfl, hlc, Nat.le_refl _, .inl hz⟩, rfl⟩
          · have each : ∀ i d, elems[i]? = some d → ∃ cs', W.cells? base (a.add (i * P.cellsOf e)) (P.cellsOf e) = some cs' ∧ DataW.trod enc P W base spare held n e cs' = some d := by
              intro i d hd
              have hi : i < len := by rw [← hel]; exact (List.getElem?_eq_some_iff.1 hd).1
              have := hgt i hi
              rw [hd] at this
              exact Option.bind_eq_some_iff.1 this
            have hadd : ∀ i j, (a.add i).add j = a.add (i + j) := by
              intro i j
              unfold Addr.add
              by_cases hi : i = 0
              · subst hi; simp
              · by_cases hj : j = 0
                · subst hj; simp [hi]
                · simp [hi, hj, Nat.add_assoc]
            obtain ⟨ι1, h1, vs, e1, r1, no1, l1, v1, d1⟩ := opens_elems (P := P) (W := W) (z := z) (e := e) (f := fun j => W.cell? (a.add j)) rfl (elems.map (·.1)) 0 (fun i d hd => by
              rw [List.getElem?_map, Option.map_eq_some_iff] at hd
              obtain ⟨y, hy, rfl⟩ := hd
              obtain ⟨cs', g1, g2⟩ := each i y hy
              obtain ⟨_, g3, g4⟩ := World.cells?_some g1
              refine ⟨cs', g3, fun j hj => ?_, ih e cs' y he g2⟩
              rw [← g4 j hj, hadd, Nat.zero_add]) ι h r no hz
            rw [List.length_map, hel] at l1
            have hvpos : 0 < vs.length := by rw [l1]; exact Nat.mul_pos (by omega) hpos
            obtain ⟨v0, hv0, _⟩ := v1 0 _ (List.getElem?_eq_getElem hvpos)
            obtain ⟨ab, ao, sp⟩ := a
            have hsp : sp = none := by
              have h0 := hv0
              simp only [Nat.zero_mul, Nat.zero_add] at h0
              simpa [Addr.add] using World.cell?_spot h0
            subst hsp
            have hcell : ∀ j, W.cell? (Addr.add ⟨ab, ao, none⟩ j) = W.cell? ⟨ab, ao + j, none⟩ := fun j => by rw [Addr.add_lit]
            obtain ⟨cw, T, lo, hi', hW⟩ : ∃ cw T lo hi', W.heap[ab]? = some (.cells cw T (lo, hi')) := by
              try simp only at hv0
              rw [hcell] at hv0
              unfold World.cell? at hv0
              simp only at hv0
              cases hb : W.heap[ab]? with
              | none => rw [hb] at hv0; cases hv0
              | some o =>
                cases o with
                | cells cs T q => obtain ⟨lo, hi⟩ := q; exact ⟨_, _, _, _, rfl⟩
                | _ => rw [hb] at hv0; cases hv0
            have hor : ORel ι1 (infoOf h1.get) (wsz W) W ab ao (.cells .ro (P.cellsOf e) vs) := by
              refine ⟨cw, T, lo, hi', hW, fun i x hx => ?_, fun h => absurd rfl h, fun h => by cases h⟩
              obtain ⟨v, hv, hr⟩ := v1 i x hx
              refine ⟨v, ?_, hr⟩
              simp only [Nat.zero_mul, Nat.zero_add] at hv
              rw [hcell] at hv
              unfold World.cell? at hv
              simp only [hW] at hv
              simpa using hv
            have hab : ab < W.heap.size := (Array.getElem?_eq_some_iff.1 hW).1
            obtain ⟨ι2, e2, r2, no2, hio⟩ := lay_ro r1 no1 hab hor
            refine ⟨ι2, _, [.slice h1.n 0 len cap true], e1.trans e2, r2, no2, ?_, ?_⟩
            · simp only [VRL, VR]
              exact ⟨_, _, rfl, ⟨_, _, rfl, hlc, Nat.le_refl _, .inr ⟨ab, ao, hio, fun _ => ⟨rfl, rfl⟩, fun h => by cases h⟩⟩, rfl⟩
            · have hml : (elems.map (·.1)).length = len := by rw [List.length_map, hel]
              have := DatR.slice (P := P) (h := h1.alloc (.cells .ro (P.cellsOf e) vs)) (b := h1.n) (cap := cap) (rest := rest.map (·.1)) hu (ds := elems.map (·.1)) (cs := vs) (by intro q; rw [q] at hml; simp at hml; omega) ⟨by omega, by omega⟩ (by simp) (by rw [AHeap.get_alloc, if_pos rfl]) (by rw [hml]; exact l1) (fun i d hd => (d1 i d hd).keep e2.n e2.old)
              rw [hml] at this
              exact this
      | struct fs =>
        obtain ⟨xs, n', hn', rfl, hcl, hxl, hgt⟩ := DataW.trod_struct hu hx
        cases hn'
        intro ι h r no hz
        have hmem : ∀ (l : List Field) (off : Nat), layB P S (P.cellsOf t) off l = true → ∀ f ∈ l, f.type ∈ S := by
          intro l
          induction l with
          | nil => intro off _ f hf; cases hf
          | cons g l ihl =>
            intro off hl f hf
            simp only [layB, Bool.and_eq_true, beq_iff_eq] at hl
            rcases List.mem_cons.1 hf with rfl | hf
            · simpa using hl.1.2
            · exact ihl _ hl.2 f hf
        obtain ⟨ι1, h1, vs, e1, r1, no1, v1, _, d1⟩ := opens_fields (P := P) (W := W) (z := z) (S := S) hcl fs.toList (xs.map (·.1)) 0 hp (by simpa using hxl) (fun i f d hf hd => by
          rw [List.getElem?_map, Option.map_eq_some_iff] at hd
          obtain ⟨y, hy, rfl⟩ := hd
          have hf' : fs[i]? = some f := by simpa using hf
          exact ih f.type _ y (hmem _ _ hp f (List.mem_of_getElem? hf)) ((hgt i f hf').trans hy)) ι h r no hz
        rw [List.drop_zero] at v1
        refine ⟨ι1, h1, vs, e1, r1, no1, v1, .agg hu (v1.length.trans hcl) (by simpa using hxl) fun i f d hf hd => ?_⟩
        have := (d1 i f d (by simpa using hf) hd).2
        rwa [Nat.sub_zero] at this
      | _ => cases hp
end
end Go.Ev
/- Arguments of structs and slices: what a law's walk gives; sizes. -/
namespace Go.Ev
open Go Go.RowKit

theorem Ext.glob {P : Program} {ι ι' : Mp} {h h' : AHeap} (e : Ext ι h ι' h') (g : Glob P ι) : Glob P ι' := fun k hk => e.ext k _ (g k hk)
theorem noOwn0 {T NG K : Nat} {txt : Nat → List UInt8} {xs : Nat → AObj} : NoOwn (heap0 T NG K txt 0 xs) := by
  rintro b ⟨f, s, h⟩
  unfold infoOf at h
  rw [heap0_get] at h
  split at h
  · rename_i x hx
    split at hx
    · split at hx
      · cases hx; cases h
      · split at hx
        · cases hx; cases h
        · split at hx
          · cases hx; cases h
          · omega
    · cases hx
  · cases h

section
variable {H : Type} {P : Program}
variable {h : AHeap}
theorem DatR.int_inv {t : TypeId} {k : IntKind} (ht : P.underlying t = some (.int k)) {d : DataW H} {cs : List AV} (r : DatR P h t d cs) : ∃ n, cs = [.int k n] ∧ (Lit.int k n).wf = true := by
  cases r with
  | int h1 h2 => rw [ht] at h1; cases h1; exact ⟨_, rfl, h2⟩
  | str h1 _ => rw [ht] at h1; cases h1
  | bool h1 => rw [ht] at h1; cases h1
  | nil h1 => rw [ht] at h1; cases h1
  | emp h1 => rw [ht] at h1; cases h1
  | slice h1 _ _ _ _ _ _ => rw [ht] at h1; cases h1
  | agg h1 _ _ _ => rw [ht] at h1; cases h1
end
end Go.Ev
/- A loop, by what holds ahead of each round and at the end. -/
namespace Go.Ev
open Go
section
variable {F : FT} {a : AAct} {h : AHeap} {K : Post}
/-- What is owed by a round: the next one, or what holds at the loop's end. -/
def loopX (I : Nat → AAct → AHeap → Prop) (J : AAct → AHeap → Prop) (n id : Nat) (K : Post) : Post
  | .norm, a, h => ∃ m, m < n ∧ I m a h
  | .exit i, a, h => if i = id then J a h else K (.exit i) a h
  | e, a, h => K e a h
variable {I : Nat → AAct → AHeap → Prop} {J : AAct → AHeap → Prop} {n id i : Nat}
@[go_sem] theorem loopX_norm : loopX I J n id K .norm a h = ∃ m, m < n ∧ I m a h := Eq.trans rfl rfl
@[go_sem] theorem loopX_exit : loopX I J n id K (.exit i) a h = if i = id then J a h else K (.exit i) a h := Eq.trans rfl rfl
@[go_sem] theorem loopX_ret : loopX I J n id K .ret a h = K .ret a h := Eq.trans rfl rfl
@[go_sem] theorem loopX_pan {v : AV} : loopX I J n id K (.pan v) a h = K (.pan v) a h := Eq.trans rfl rfl
end
attribute [irreducible] loopX
@[go_sem] theorem wantB_undef {w : Bool} : wantB (some undefA) w = false := by cases w <;> rfl
section
variable {F : FT} {l : List MOper} {b : Bool} {o : MOper} {a : AAct} {h : AHeap} {K K' : Post}
end
end Go.Ev
