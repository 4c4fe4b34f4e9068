/- Codes as arguments. -/
import Derived.Test.YtjfagfoekpnofaaDoorEvC
import Derived.Test.YtjfagfoekpnofaaDoorPCl0
import Derived.Test.YtjfagfoekpnofaaDoorPP5
set_option linter.all false
set_option linter.unusedVariables false
set_option linter.unusedSimpArgs false
namespace Go.Ev
open Go Go.RowKit Go.Proofs
set_option maxRecDepth 100000

/-- A dead block behind the others. -/
theorem rel_dead {ι : Mp} {h : AHeap} {W : World} (r : Rel ι h W) (no : NoOwn h) : Ext ι h ι (h.alloc .dead) ∧ Rel ι (h.alloc .dead) W ∧ NoOwn (h.alloc .dead) ∧ infoOf (h.alloc .dead).get h.n = .dead := by
  have e : Ext ι h ι (h.alloc .dead) := ⟨by simp, fun b hb => by rw [AHeap.get_alloc, if_neg (by omega)], fun b x hx => hx⟩
  have hinf : ∀ b, b ≠ h.n → infoOf (h.alloc .dead).get b = infoOf h.get b := fun b hb => by unfold infoOf; rw [AHeap.get_alloc, if_neg hb]
  have hnew : infoOf (h.alloc .dead).get h.n = .dead := by unfold infoOf; rw [AHeap.get_alloc, if_pos rfl]; rfl
  refine ⟨e, ?_, ?_, hnew⟩
  · exact {
      dom := fun b c' p' hb => by
        have := r.dom b c' p' hb; simp only [AHeap.alloc_n]; omega
      lt := fun b x hb => by
        rw [AHeap.get_alloc] at hb
        split at hb
        · simp only [AHeap.alloc_n]; omega
        · have := r.lt b x hb; simp only [AHeap.alloc_n]; omega
      obj := fun b c' p' hb => by
        have hne : b ≠ h.n := by have := r.dom b c' p' hb; omega
        obtain ⟨x, hx, h1, h2⟩ := r.obj b c' p' hb
        exact ⟨x, by rw [AHeap.get_alloc, if_neg hne]; exact hx, h1, ORel.mono (e.grow r _) rfl h2⟩
      inj := fun b b' c' p' p'' h1 h2 ow ow' => by
        have hne : b ≠ h.n := by have := r.dom b c' p' h1; omega
        obtain ⟨f, s, hb⟩ := ow
        rw [hinf b hne] at hb
        exact absurd ⟨f, s, hb⟩ (no b) }
  · rintro b ⟨f, s, hb⟩
    by_cases e1 : b = h.n
    · subst e1; rw [hnew] at hb; cases hb
    · rw [hinf b e1] at hb; exact no b ⟨f, s, hb⟩
section
variable {H : Type} {P : Program} {h : AHeap}
theorem DatR.slice_inv {t e : TypeId} (ht : P.underlying t = some (.slice e)) {d : DataW H} {cs : List AV} (r : DatR P h t d cs) : (∃ v, cs = [v] ∧ (v = .nilSlice ∨ ∃ b cap, v = .slice b 0 0 cap true)) ∨ ∃ ds rest b cap cs', d = .slice ds rest ∧ cs = [.slice b 0 ds.length cap true] ∧ ds ≠ [] ∧ ds.length ≤ cap ∧ b < h.n ∧ h.get b = some ⟨0, .cells .ro (P.cellsOf e) cs'⟩ ∧ cs'.length = ds.length * P.cellsOf e ∧ ∀ (i : Nat) (d : DataW H), ds[i]? = some d → DatR P h e d ((cs'.drop (i * P.cellsOf e)).take (P.cellsOf e)) := by
  cases r with
  | int h1 _ => rw [ht] at h1; cases h1
  | str h1 _ => rw [ht] at h1; cases h1
  | bool h1 => rw [ht] at h1; cases h1
  | nil h1 => exact .inl ⟨_, rfl, .inl rfl⟩
  | emp h1 => exact .inl ⟨_, rfl, .inr ⟨_, _, rfl⟩⟩
  | slice h1 h2 h3 h4 h5 h6 h7 =>
    rw [ht] at h1
    cases h1
    exact .inr ⟨_, _, _, _, _, rfl, rfl, h2, h3.2, h4, h5, h6, h7⟩
  | agg h1 _ _ _ => rw [ht] at h1; cases h1
theorem DatR.agg_inv {t : TypeId} {fs : Array Field} (ht : P.underlying t = some (.struct fs)) {d : DataW H} {cs : List AV} (r : DatR P h t d cs) : ∃ ds, d = .agg ds ∧ cs.length = P.cellsOf t ∧ ds.length = fs.size ∧ ∀ (i : Nat) (f : Field) (d : DataW H), fs[i]? = some f → ds[i]? = some d → DatR P h f.type d ((cs.drop f.offset).take (P.cellsOf f.type)) := by
  cases r with
  | int h1 _ => rw [ht] at h1; cases h1
  | str h1 _ => rw [ht] at h1; cases h1
  | bool h1 => rw [ht] at h1; cases h1
  | nil h1 => rw [ht] at h1; cases h1
  | emp h1 => rw [ht] at h1; cases h1
  | slice h1 _ _ _ _ _ _ => rw [ht] at h1; cases h1
  | agg h1 h2 h3 h4 =>
    rw [ht] at h1
    cases h1
    exact ⟨_, rfl, h2, h3, h4⟩
/-- Rows of elements. -/
theorem elems_of {α : Type} (R : List α → List AV → Prop) {k : Nat} (h0 : R [] []) (hc : ∀ (x : α) (a : List AV) (l : List α) (cs : List AV), R [x] a → R l cs → R (x :: l) (a ++ cs)) : ∀ (ds : List (DataW H)) (cs : List AV), cs.length = ds.length * k → (∀ (i : Nat) (d : DataW H), ds[i]? = some d → ∃ x, R [x] ((cs.drop (i * k)).take k)) → ∃ xs : List α, xs.length = ds.length ∧ R xs cs
  | [], cs, hl, _ => ⟨[], rfl, by
    have : cs = [] := List.length_eq_zero_iff.1 (by simpa using hl)
    subst this; exact h0⟩
  | d :: ds, cs, hl, hg => by
    obtain ⟨x, h1⟩ := hg 0 d rfl
    rw [List.length_cons, Nat.succ_mul] at hl
    obtain ⟨xs, h3, h4⟩ := elems_of R (k := k) h0 hc ds (cs.drop k) (by rw [List.length_drop]; omega) (fun i d' hd => by
      obtain ⟨x', g1⟩ := hg (i + 1) d' (by simpa using hd)
      refine ⟨x', ?_⟩
      rw [List.drop_drop, show k + i * k = (i + 1) * k by rw [Nat.succ_mul]; omega]
      exact g1)
    refine ⟨x :: xs, by simp [h3], ?_⟩
    have e : cs = cs.take k ++ cs.drop k := (List.take_append_drop _ _).symm
    rw [Nat.zero_mul, List.drop_zero] at h1
    rw [e]
    exact hc _ _ _ _ h1 h4
/-- A slice of elements, as it reads. -/
theorem sl_of {α : Type} (R : List α → List AV → Prop) {t e : TypeId} {k : Nat} (h0 : R [] []) (hc : ∀ (x : α) (a : List AV) (l : List α) (cs : List AV), R [x] a → R l cs → R (x :: l) (a ++ cs)) (ht : P.underlying t = some (.slice e)) (hk : P.cellsOf e = k) (hb : 0 < P.bytesOf e) {d : DataW H} {cs : List AV} (r : DatR P h t d cs) (hw : (d.weights P t).all (· ≤ reachBytes) = true) (each : ∀ (d : DataW H) (cs : List AV), DatR P h e d cs → (d.weights P e).all (· ≤ reachBytes) = true → ∃ x, R [x] cs) : ∃ xs v css, cs = [v] ∧ R xs css ∧ SlC h k xs.length css v := by
  subst hk
  rcases r.slice_inv ht with ⟨v, rfl, rfl | ⟨b, cap, rfl⟩⟩ | ⟨ds, rest, b, cap, cs', rfl, rfl, hne, hle, hlt, hg, hl, hel⟩
  · exact ⟨[], _, [], rfl, h0, .nil, .inl rfl⟩
  · exact ⟨[], _, [], rfl, h0, .emp, .inr ⟨_, _, _, _, rfl, Nat.zero_le _, .inl rfl⟩⟩
  · rw [DataW.weights, ht] at hw
    simp only [List.all_cons, Bool.and_eq_true, List.all_append, decide_eq_true_eq] at hw
    obtain ⟨hw1, hw2, _⟩ := hw
    obtain ⟨xs, h1, h2⟩ := elems_of R (k := P.cellsOf e) h0 hc ds cs' hl (fun i d hd => each d _ (hel i d hd) (weightsAll_get hd hw2))
    have hs : ds.length < 2 ^ 61 := by
      have : ds.length ≤ (ds.length + rest.length) * P.bytesOf e := Nat.le_trans (Nat.le_add_right _ _) (Nat.le_mul_of_pos_right _ hb)
      have hr : reachBytes < 2 ^ 61 := by decide
      omega
    have hp : 0 < ds.length := by
      cases ds with
      | nil => exact absurd rfl hne
      | cons => simp
    refine ⟨xs, _, cs', rfl, h2, ?_⟩
    rw [h1]
    exact ⟨.row hp hs hlt hg (by rw [row_all hl]), .inr ⟨_, _, _, _, rfl, hle, .inl rfl⟩⟩
end

section
variable {H : Type} {h : AHeap}
theorem cInt : Tryd.prog.cellsOf 3 = 1 := by kernel_rfl
theorem cU64 : Tryd.prog.cellsOf 35 = 1 := by kernel_rfl
theorem cInts : Tryd.prog.cellsOf 22 = 1 := by kernel_rfl
theorem cChans : Tryd.prog.cellsOf 23 = 1 := by kernel_rfl
theorem cEnts : Tryd.prog.cellsOf 24 = 1 := by kernel_rfl
theorem cInss : Tryd.prog.cellsOf 25 = 1 := by kernel_rfl
theorem cChan : Tryd.prog.cellsOf 60 = 2 := by kernel_rfl
theorem cEnt : Tryd.prog.cellsOf 39 = 3 := by kernel_rfl
theorem cIns : Tryd.prog.cellsOf 37 = 5 := by kernel_rfl
theorem nCode : Tryd.prog.cellsOf 27 = 7 := by kernel_rfl
theorem bInt : 0 < Tryd.prog.bytesOf 3 := of_decide_eq_true (by kernel_rfl)
theorem bChan : 0 < Tryd.prog.bytesOf 60 := of_decide_eq_true (by kernel_rfl)
theorem bEnt : 0 < Tryd.prog.bytesOf 39 := of_decide_eq_true (by kernel_rfl)
theorem bIns : 0 < Tryd.prog.bytesOf 37 := of_decide_eq_true (by kernel_rfl)
theorem ints_of {d : DataW H} {cs : List AV} (r : DatR Tryd.prog h 22 d cs) (hw : (d.weights Tryd.prog 22).all (· ≤ reachBytes) = true) : ∃ l v, cs = [v] ∧ IntsC h l v := by
  obtain ⟨xs, v, css, rfl, rfl, h2⟩ := sl_of (fun (l : List Int) cs => cs = l.map fun x => .int .i64 x) (k := 1) rfl (fun x a l cs h1 h2 => by subst h1 h2; rfl) Tryd.underlying22 cInt bInt r hw (fun d cs r _ => by
    obtain ⟨n, rfl, _⟩ := r.int_inv Tryd.underlying3
    exact ⟨n, rfl⟩)
  exact ⟨xs, v, rfl, h2⟩
theorem chans_of {d : DataW H} {cs : List AV} (r : DatR Tryd.prog h 23 d cs) (hw : (d.weights Tryd.prog 23).all (· ≤ reachBytes) = true) : ∃ (l : List (Int × Int)) (v : AV), cs = [v] ∧ SlV h 2 l.length (l.flatMap chC) v := by
  obtain ⟨xs, v, css, rfl, rfl, h2⟩ := sl_of (fun (l : List (Int × Int)) cs => cs = l.flatMap chC) (k := 2) rfl (fun x a l cs h1 h2 => by subst h1 h2; simp) Tryd.underlying23 cChan bChan r hw (fun d cs r _ => by
    obtain ⟨ds, rfl, hl, hd, hf⟩ := r.agg_inv Tryd.underlying60
    rw [cChan] at hl
    match ds, hd with
    | [d0, d1], _ =>
      match cs, hl with
      | [c0, c1], _ =>
        obtain ⟨n0, e0, _⟩ := (hf 0 _ d0 rfl rfl).int_inv Tryd.underlying3
        obtain ⟨n1, e1, _⟩ := (hf 1 _ d1 rfl rfl).int_inv Tryd.underlying3
        replace e0 : List.take (Tryd.prog.cellsOf 3) (List.drop 0 [c0, c1]) = [.int .i64 n0] := e0
        replace e1 : List.take (Tryd.prog.cellsOf 3) (List.drop 1 [c0, c1]) = [.int .i64 n1] := e1
        simp only [cInt, List.drop_zero, List.drop_succ_cons, List.take_succ_cons, List.take_zero, List.cons.injEq, and_true] at e0 e1
        subst e0 e1
        exact ⟨(n0, n1), rfl⟩)
  exact ⟨xs, v, rfl, h2.1⟩
theorem inss_of {d : DataW H} {cs : List AV} (r : DatR Tryd.prog h 25 d cs) (hw : (d.weights Tryd.prog 25).all (· ≤ reachBytes) = true) : ∃ (l : List Ins) (v : AV), cs = [v] ∧ SlV h 5 l.length (l.flatMap insC) v := by
  obtain ⟨xs, v, css, rfl, rfl, h2⟩ := sl_of (fun (l : List Ins) cs => cs = l.flatMap insC) (k := 5) rfl (fun x a l cs h1 h2 => by subst h1 h2; simp) Tryd.underlying25 cIns bIns r hw (fun d cs r _ => by
    obtain ⟨ds, rfl, hl, hd, hf⟩ := r.agg_inv Tryd.underlying37
    rw [cIns] at hl
    match ds, hd with
    | [d0, d1, d2, d3, d4], _ =>
      match cs, hl with
      | [c0, c1, c2, c3, c4], _ =>
        obtain ⟨n0, e0, _⟩ := (hf 0 _ d0 rfl rfl).int_inv Tryd.underlying3
        obtain ⟨n1, e1, _⟩ := (hf 1 _ d1 rfl rfl).int_inv Tryd.underlying3
        obtain ⟨n2, e2, _⟩ := (hf 2 _ d2 rfl rfl).int_inv Tryd.underlying3
        obtain ⟨n3, e3, _⟩ := (hf 3 _ d3 rfl rfl).int_inv Tryd.underlying35
        obtain ⟨n4, e4, _⟩ := (hf 4 _ d4 rfl rfl).int_inv Tryd.underlying3
        replace e0 : List.take (Tryd.prog.cellsOf 3) (List.drop 0 [c0, c1, c2, c3, c4]) = [.int .i64 n0] := e0
        replace e1 : List.take (Tryd.prog.cellsOf 3) (List.drop 1 [c0, c1, c2, c3, c4]) = [.int .i64 n1] := e1
        replace e2 : List.take (Tryd.prog.cellsOf 3) (List.drop 2 [c0, c1, c2, c3, c4]) = [.int .i64 n2] := e2
        replace e3 : List.take (Tryd.prog.cellsOf 35) (List.drop 3 [c0, c1, c2, c3, c4]) = [.int .u64 n3] := e3
        replace e4 : List.take (Tryd.prog.cellsOf 3) (List.drop 4 [c0, c1, c2, c3, c4]) = [.int .i64 n4] := e4
        simp only [cInt, cU64, List.drop_zero, List.drop_succ_cons, List.take_succ_cons, List.take_zero, List.cons.injEq, and_true] at e0 e1 e2 e3 e4
        subst e0 e1 e2 e3 e4
        exact ⟨⟨n0, n1, n2, n3, n4⟩, rfl⟩)
  exact ⟨xs, v, rfl, h2.1⟩
theorem ents_of {d : DataW H} {cs : List AV} (r : DatR Tryd.prog h 24 d cs) (hw : (d.weights Tryd.prog 24).all (· ≤ reachBytes) = true) : ∃ (l : List En) (v : AV), cs = [v] ∧ ∃ css, EnsV h l css ∧ SlV h 3 l.length css v := by
  obtain ⟨xs, v, css, rfl, h1, h2⟩ := sl_of (EnsV h) (k := 3) .nil (fun x a l cs h1 h2 => by
    cases h1 with
    | cons a b =>
      cases b
      rw [List.append_nil]
      exact .cons a h2) Tryd.underlying24 cEnt bEnt r hw (fun d cs r hw => by
    obtain ⟨ds, rfl, hl, hd, hf⟩ := r.agg_inv Tryd.underlying39
    rw [cEnt] at hl
    rw [DataW.weights, Tryd.underlying39] at hw
    match ds, hd with
    | [d0, d1, d2], _ =>
      match cs, hl with
      | [c0, c1, c2], _ =>
        obtain ⟨n0, e0, _⟩ := (hf 0 _ d0 rfl rfl).int_inv Tryd.underlying3
        obtain ⟨n1, e1, _⟩ := (hf 1 _ d1 rfl rfl).int_inv Tryd.underlying3
        obtain ⟨l, v, e2, hv⟩ := ints_of (hf 2 _ d2 rfl rfl) (weightsEach_get (i := 2) rfl rfl hw)
        replace e0 : List.take (Tryd.prog.cellsOf 3) (List.drop 0 [c0, c1, c2]) = [.int .i64 n0] := e0
        replace e1 : List.take (Tryd.prog.cellsOf 3) (List.drop 1 [c0, c1, c2]) = [.int .i64 n1] := e1
        replace e2 : List.take (Tryd.prog.cellsOf 22) (List.drop 2 [c0, c1, c2]) = [v] := e2
        simp only [cInt, cInts, List.drop_zero, List.drop_succ_cons, List.take_succ_cons, List.take_zero, List.cons.injEq, and_true] at e0 e1 e2
        subst e0 e1 e2
        exact ⟨⟨n0, n1, l⟩, .cons hv .nil⟩)
  exact ⟨xs, v, rfl, css, h1, h2.1⟩
theorem code_of {d : DataW H} {cs : List AV} (r : DatR Tryd.prog h 27 d cs) (hw : (d.weights Tryd.prog 27).all (· ≤ reachBytes) = true) : ∃ (c : Cd) (pv chv fv bv : AV), cs = cdC c pv chv fv bv ∧ CdV h c pv chv fv bv := by
  obtain ⟨ds, rfl, hl, hd, hf⟩ := r.agg_inv Tryd.underlying27
  rw [nCode] at hl
  rw [DataW.weights, Tryd.underlying27] at hw
  match ds, hd with
  | [d0, d1, d2, d3, d4, d5, d6], _ =>
    match cs, hl with
    | [c0, c1, c2, c3, c4, c5, c6], _ =>
      obtain ⟨pl, pv, e0, hp⟩ := ints_of (hf 0 _ d0 rfl rfl) (weightsEach_get (i := 0) rfl rfl hw)
      obtain ⟨n1, e1, _⟩ := (hf 1 _ d1 rfl rfl).int_inv Tryd.underlying3
      obtain ⟨n2, e2, _⟩ := (hf 2 _ d2 rfl rfl).int_inv Tryd.underlying3
      obtain ⟨cl, chv, e3, hc⟩ := chans_of (hf 3 _ d3 rfl rfl) (weightsEach_get (i := 3) rfl rfl hw)
      obtain ⟨fl, fv, e4, hff⟩ := ents_of (hf 4 _ d4 rfl rfl) (weightsEach_get (i := 4) rfl rfl hw)
      obtain ⟨n5, e5, _⟩ := (hf 5 _ d5 rfl rfl).int_inv Tryd.underlying3
      obtain ⟨bl, bv, e6, hb⟩ := inss_of (hf 6 _ d6 rfl rfl) (weightsEach_get (i := 6) rfl rfl hw)
      replace e0 : List.take (Tryd.prog.cellsOf 22) (List.drop 0 [c0, c1, c2, c3, c4, c5, c6]) = [pv] := e0
      replace e1 : List.take (Tryd.prog.cellsOf 3) (List.drop 1 [c0, c1, c2, c3, c4, c5, c6]) = [.int .i64 n1] := e1
      replace e2 : List.take (Tryd.prog.cellsOf 3) (List.drop 2 [c0, c1, c2, c3, c4, c5, c6]) = [.int .i64 n2] := e2
      replace e3 : List.take (Tryd.prog.cellsOf 23) (List.drop 3 [c0, c1, c2, c3, c4, c5, c6]) = [chv] := e3
      replace e4 : List.take (Tryd.prog.cellsOf 24) (List.drop 4 [c0, c1, c2, c3, c4, c5, c6]) = [fv] := e4
      replace e5 : List.take (Tryd.prog.cellsOf 3) (List.drop 5 [c0, c1, c2, c3, c4, c5, c6]) = [.int .i64 n5] := e5
      replace e6 : List.take (Tryd.prog.cellsOf 25) (List.drop 6 [c0, c1, c2, c3, c4, c5, c6]) = [bv] := e6
      simp only [cInt, cInts, cChans, cEnts, cInss, List.drop_zero, List.drop_succ_cons, List.take_succ_cons, List.take_zero, List.cons.injEq, and_true] at e0 e1 e2 e3 e4 e5 e6
      subst e0 e1 e2 e3 e4 e5 e6
      exact ⟨⟨pl, n1, n2, cl, fl, n5, bl⟩, _, _, _, _, rfl, hp, hc, hff, hb⟩
end
end Go.Ev
