/- Trees are the same just if all but their places is, of all trees; how many nodes they have, how deep they are, whatever the input: the row of TreeSame and its tied card. -/
import Derived.Test.YtccenddkgeglmaaDoorSCl0
import Derived.Test.YtccenddkgeglmaaDoorSOpN
import Derived.Test.YtccenddkgeglmaaDoorSK34
import Derived.Test.YtccenddkgeglmaaDoorCards
import Derived.Test.YtccenddkgeglmaaDoorTie
import Derived.SevenTiedAt
set_option linter.all false
set_option linter.unusedVariables false
set_option linter.unusedSimpArgs false
namespace Go.Proofs.YtccenddkgeglmaaDoor
open Go Go.Ev Go.ChangeShapes Go.WideShapes Go.ChangeAt Go.RowKit Go.ChangeMaps
set_option maxRecDepth 100000
set_option maxHeartbeats 4000000

abbrev zNode : Value := .agg #[.int .i64 0, .int .i64 0, .string ⟨#[]⟩, .int .i64 0, .int .i64 0, .int .i64 0, .int .i64 0, .int .u64 0, .slice none 0 0]
theorem treeSame_lifted (os : Os) (started : os.Started) (H : Type) (enc : TypeId × Value → H) :
    ReturnsInHanded {} Tryd.checked os 11 .any (fun w args => (Rows.treeSameSpec.pre enc Tryd.prog Tryd.f11 [] false w args ∧ laidMetH Tryd.prog Rows.tokenIntsRow.laid w) ∧ sizedMet enc Tryd.prog Tryd.f11 (OpenSpec.ofChange Rows.treeSameSpec) false w args)
      (Rows.treeSameSpec.post enc Tryd.prog Tryd.f11 false true false false) := by
  refine returns_open (C := Tryd.checked) (X := fun w _ => laidMetH Tryd.prog Rows.tokenIntsRow.laid w) (fun _ _ _ hh h => h.of_heap hh) dOwn started (by kernel_rfl) Tryd.func11 gPlain
    (ChangeSpec.witness_shaped (enc := enc) (C := Tryd.checked) (os := os) (X := fun w _ => laidMetH Tryd.prog Rows.tokenIntsRow.laid w) false (World.doorLaid Tryd.prog 400 os) #[zNode, zNode] 8 rfl (World.shaped_of_RefB (by kernel_rfl) (by kernel_rfl)) (by kernel_rfl) (by kernel_rfl) (by kernel_rfl) (door_met os _)) ?_
  intro W base args ds gs before hsz hval0 hW _ hwt hL _
  have hval : ∀ (j : Nat) t v, Tryd.f11.params[j]? = some t → args[j]? = some v → Value.okWide Tryd.prog W .any base t v := hval0
  have hwt' : (DataW.weightsEach Tryd.prog (Tryd.f11.params.toList ++ Rows.treeSameSpec.plain.varTypes Tryd.prog) (ds ++ gs)).all (· ≤ reachBytes) = true := hwt
  have hW' := hW
  obtain ⟨p, q, hA0, hV, rfl, hfz, hnd⟩ := hW
  have hA : DataW.TrodAll enc Tryd.prog W 0 (fun _ => true) true Tryd.f11.params.toList args.toList ds p := hA0
  rw [Tryd.params11] at hA hval hwt'
  obtain ⟨v0, v1, d0, d1, p0, p1, rfl, rfl, rfl, h0, h1⟩ := trodAll_two hA
  obtain ⟨rfl, rfl⟩ := trodVars_none hV
  clear hA0 hval0 hwt
  have hL' : laidMet Tryd.prog (gPairs.map (laidRow "*errors.errorString")) W := by
    have h1 := hL
    rw [MakeChecks.laidMetH_plain _ _ _ (by kernel_rfl), gLaid] at h1
    exact h1
  obtain ⟨c, o, hs⟩ := sents hL'
  have hlt0 : ∀ x ∈ p0, x.block < W.heap.size := fun x hx => by obtain ⟨k, hk⟩ := h0; exact DataW.trod_lt k _ _ _ hk x hx
  have hlt1 : ∀ x ∈ p1, x.block < W.heap.size := fun x hx => by obtain ⟨k, hk⟩ := h1; exact DataW.trod_lt k _ _ _ hk x hx
  obtain ⟨cs0, rfl, _⟩ := okWide_struct Tryd.underlying42 (hval 0 42 v0 rfl rfl)
  obtain ⟨cs1, rfl, _⟩ := okWide_struct Tryd.underlying42 (hval 1 42 v1 rfl rfl)
  have hr := rel0 (P := Tryd.prog) (T := 130) (K := 17) (txt := txt) (m := 0) (xs := fun _ => .dead) (xi := fun _ => (0, 0)) (c := c) (o := o) (W := W) (by rw [gSize]; decide) hsz hs (fun j hj => by omega) (fun j hj => by omega)
  have hg := iota0_glob (P := Tryd.prog) (K := 17) (c := c) (o := o) (m := 0) (xi := fun _ => (0, 0))
  have hdead : infoOf (heap0 130 Tryd.prog.globals.size 17 txt 0 (fun _ => .dead)).get 17 = .dead := by
    simp [infoOf, heap0_get, gSize]
    rfl
  have hS : plainT Tryd.prog [42, 40, 3, 30, 9] = true := by kernel_rfl
  have hgh := gh0 0 (fun _ => .dead)
  obtain ⟨k0, hk0⟩ := h0
  obtain ⟨k1, hk1⟩ := h1
  obtain ⟨ι1, H1, vs0, e1, r1, no1, v1, dr0⟩ := opens_plain hS k0 42 _ _ (by simp) hk0 _ _ hr noOwn0 hdead
  obtain ⟨ι2, H2, vs1, e2, r2, no2, v2, dr1⟩ := opens_plain hS k1 42 _ _ (by simp) hk1 _ _ r1 no1 (by rw [e1.info (info_lt hr hdead)]; exact hdead)
  have e12 := e1.trans e2
  obtain ⟨a, kv, rfl, ka⟩ := (node_of (dr0.keep e2.n e2.old) (weightsEach_get (i := 0) rfl rfl hwt')).1 rfl
  obtain ⟨b, kw, rfl, kb⟩ := (node_of dr1 (weightsEach_get (i := 1) rfl rfl hwt')).1 rfl
  have hGH : GH H2 := (show Fr (heap0 130 Tryd.prog.globals.size 17 txt 0 (fun _ => .dead)).n _ H2 from ⟨e12.n, fun b hb _ => e12.old b hb⟩).gh hgh.n hgh
  have walk : WF F 11 [.agg (ndC a kv), .agg (ndC b kw)] H2 (fun r _ => r = .ret (.bool true)) := tsame_law hGH ka kb
  have vv : VRL ι2 (infoOf H2.get) (wsz W) [.agg (ndC a kv), .agg (ndC b kw)] #[Value.agg cs0, Value.agg cs1].toList := by
    have v1' := VRL.mono (e2.grow r1 (wsz W)) _ _ v1
    simp only [VRL, VR]
    exact ⟨_, _, rfl, ⟨_, rfl, v1'⟩, _, _, rfl, ⟨_, rfl, v2⟩, rfl⟩
  refine (run1 fok primsH hmix Tryd.func11 rfl (by kernel_rfl) r2 (e12.glob hg) no2 vv walk).mono ?_
  rintro e W' ⟨rfl, hb⟩
  refine ⟨_, rfl, _, _, _, [], p0 ++ p1, [], hW', ?_, ?_, rfl, hb.frame _, fun h => by cases h⟩
  · exact trodAll_mk1 (shut_bool Tryd.underlying4 true)
  · exact trodAll_mk2 (Below.trod (by kernel_rfl) (by kernel_rfl) (of_decide_eq_true (by kernel_rfl)) ⟨k0, hk0⟩ hb hlt0) (Below.trod (by kernel_rfl) (by kernel_rfl) (of_decide_eq_true (by kernel_rfl)) ⟨k1, hk1⟩ hb hlt1)

theorem treeSame_holds : Rows.TreeSameSaid :=
  OpenClaim.holds_of_wide 11 Tryd.f11 rfl rfl rfl rfl rfl rfl rfl ⟨rfl, rfl, rfl, rfl, rfl⟩ rfl rfl rfl rfl rfl (by kernel_rfl) Tryd.func11 (by kernel_rfl)
    (of_decide_eq_true (by kernel_rfl)) (by unfold Func.isWrapper; first | (rw [if_pos (by decide +kernel)]; kernel_rfl) | (rw [if_neg (by decide +kernel)]; exact ⟨rfl, rfl⟩))
    (fun os started H enc _ => treeSame_lifted os started H enc)

theorem treeSame_card : Rows.TreeSameCardSaid :=
  Claim7.holds_tied_plain_at .later [] _ true (true, "b44672464d5ae22c4b4a8583ffe4d042fa20e77d43cc8cb8bf70fa911c194ce3") true
    treeSame_holds (fun _ h => by cases h) (by kernel_rfl) (fun _ h => by cases h) treeSame_row_tie rfl ⟨rfl, rfl⟩ (by kernel_rfl) rfl
    (fun f fn hf hfn => by
      obtain rfl : f = 11 := Option.some.inj ((show Tryd.prog.funcNamed "stockade/stockadelaw06.TreeSame" = some 11 by kernel_rfl).symm.trans hf) |>.symm
      obtain rfl : fn = Tryd.f11 := (Option.some.inj (Tryd.func11.symm.trans hfn)).symm
      exact ⟨by kernel_rfl, fun j t ht => by
        rw [Tryd.params11] at ht
        have hm : t ∈ [42, 42] := by simpa using Array.mem_of_getElem? ht
        have hall : ([42, 42].all fun u => !Tryd.prog.wantsStandIn u) = true := by kernel_rfl
        exact (show Tryd.prog.wantsStandIn t = false by simpa using List.all_eq_true.1 hall t hm)⟩)
    (by kernel_rfl)
#print axioms treeSame_card
end Go.Proofs.YtccenddkgeglmaaDoor
