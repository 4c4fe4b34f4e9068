/- Just so many brackets may stand in one another, whatever the input: the row of TreeLevels and its tied card. -/
import Derived.Test.YtccenddkgeglmaaDoorRCl0
import Derived.Test.YtccenddkgeglmaaDoorRK29
import Derived.Test.YtccenddkgeglmaaDoorRClose2
import Derived.Test.YtccenddkgeglmaaDoorCards
import Derived.Test.YtccenddkgeglmaaDoorTie
import Derived.SevenTiedAt
set_option linter.all false
set_option linter.unusedVariables false
set_option linter.unusedSimpArgs false
namespace Go.Proofs.YtccenddkgeglmaaDoor
open Go Go.Ev Go.ChangeShapes Go.WideShapes Go.ChangeAt Go.RowKit Go.ChangeMaps
set_option maxRecDepth 100000
set_option maxHeartbeats 4000000

theorem treeLevels_lifted (os : Os) (started : os.Started) (H : Type) (enc : TypeId × Value → H) :
    ReturnsInHanded {} Tryd.checked os 9 .any (fun w args => (Rows.treeLevelsSpec.pre enc Tryd.prog Tryd.f9 [] false w args ∧ laidMetH Tryd.prog Rows.tokenIntsRow.laid w) ∧ sizedMet enc Tryd.prog Tryd.f9 (OpenSpec.ofChange Rows.treeLevelsSpec) false w args)
      (Rows.treeLevelsSpec.post enc Tryd.prog Tryd.f9 false true false false) := by
  refine returns_open (C := Tryd.checked) (X := fun w _ => laidMetH Tryd.prog Rows.tokenIntsRow.laid w) (fun _ _ _ hh h => h.of_heap hh) dOwn started (by kernel_rfl) Tryd.func9 gPlain
    (ChangeSpec.witness_shaped (enc := enc) (C := Tryd.checked) (os := os) (X := fun w _ => laidMetH Tryd.prog Rows.tokenIntsRow.laid w) false (World.doorLaid Tryd.prog 400 os) #[.slice none 0 0] 8 rfl (World.shaped_of_RefB (by kernel_rfl) (by kernel_rfl)) (by kernel_rfl) (by kernel_rfl) (by kernel_rfl) (door_met os _)) ?_
  intro W base args ds gs before hsz hval0 hW _ hwt hL _
  have hval : ∀ (j : Nat) t v, Tryd.f9.params[j]? = some t → args[j]? = some v → Value.okWide Tryd.prog W .any base t v := hval0
  have hwt' : (DataW.weightsEach Tryd.prog (Tryd.f9.params.toList ++ Rows.treeLevelsSpec.plain.varTypes Tryd.prog) (ds ++ gs)).all (· ≤ reachBytes) = true := hwt
  have hW' := hW
  obtain ⟨p, q, hA0, hV, rfl, hfz, hnd⟩ := hW
  have hA : DataW.TrodAll enc Tryd.prog W 0 (fun _ => true) true Tryd.f9.params.toList args.toList ds p := hA0
  rw [Tryd.params9] at hA hval hwt'
  obtain ⟨v0, d0, rfl, rfl, h0⟩ := trodAll_one hA
  obtain ⟨rfl, rfl⟩ := trodVars_none hV
  clear hA0 hval0 hwt
  have hL' : laidMet Tryd.prog (gPairs.map (laidRow "*errors.errorString")) W := by
    have h1 := hL
    rw [MakeChecks.laidMetH_plain _ _ _ (by kernel_rfl), gLaid] at h1
    exact h1
  obtain ⟨c, o, hs⟩ := sents hL'
  obtain ⟨a1, len, cap, rfl⟩ := okWide_slice Tryd.underlying49 (hval 0 49 v0 rfl rfl)
  obtain ⟨fuel, hf⟩ := h0
  rcases open_ints Tryd.underlying49 Tryd.underlying3 (by kernel_rfl) hf with ⟨hcs, hx⟩ | ⟨a, len', cap', zs, hcs, _, hl, hm, hz, hx, hcell, hwz⟩
  · simp [Value.cells] at hcs
    obtain ⟨rfl, rfl, rfl⟩ := hcs
    simp only [Prod.mk.injEq] at hx
    obtain ⟨rfl, rfl⟩ := hx
    have hr := rel0 (P := Tryd.prog) (T := 130) (K := 17) (txt := txt) (m := 0) (xs := fun _ => .dead) (xi := fun _ => (0, 0)) (c := c) (o := o) (W := W) (by rw [gSize]; decide) hsz hs (fun j hj => by omega) (fun j hj => by omega)
    have walk : WF F 9 [.nilSlice] (hp0 0 (fun _ => .dead)) (fun r _ => r = .ret (.bool true)) := levels_law (ns := []) (gh0 0 _) ⟨rfl, .inl rfl⟩
    refine (run0 fok primsH hmix Tryd.func9 rfl (by kernel_rfl) hr (fun j hj => by omega) (by simp only [VRL, VR]; exact ⟨_, _, rfl, rfl, rfl⟩) walk).mono ?_
    rintro e W' ⟨rfl, hb⟩
    refine ⟨_, rfl, _, _, _, [], [], [], hW', ?_, ?_, rfl, hb.frame _, fun h => by cases h⟩
    · exact trodAll_mk1 (shut_bool Tryd.underlying4 true)
    · exact trodAll_mk1 (shut_nil Tryd.underlying49)
  · simp [Value.cells] at hcs
    obtain ⟨rfl, rfl, rfl⟩ := hcs
    simp only [Prod.mk.injEq] at hx
    obtain ⟨rfl, rfl⟩ := hx
    simp only [if_true] at hz
    rcases Nat.eq_zero_or_pos zs.length with h0 | hpos
    · have hc0 : cap = 0 := by omega
      have hl0 : len = 0 := by omega
      have hz0 : zs = [] := List.length_eq_zero_iff.1 h0
      subst hc0 hl0 hz0
      have hr := rel0 (P := Tryd.prog) (T := 130) (K := 17) (txt := txt) (m := 0) (xs := fun _ => .dead) (xi := fun _ => (0, 0)) (c := c) (o := o) (W := W) (by rw [gSize]; decide) hsz hs (fun j hj => by omega) (fun j hj => by omega)
      have walk : WF F 9 [.slice 17 0 0 0 true] (hp0 0 (fun _ => .dead)) (fun r _ => r = .ret (.bool true)) := levels_law (ns := []) (gh0 0 _) ⟨rfl, .inl rfl⟩
      have hdead : infoOf (heap0 130 Tryd.prog.globals.size 17 txt 0 (fun _ => .dead)).get 17 = .dead := by
        simp [infoOf, heap0_get, gSize]
        rfl
      refine (run0 fok primsH hmix Tryd.func9 rfl (by kernel_rfl) hr (fun j hj => by omega) (by simp only [VRL, VR]; exact ⟨_, _, rfl, ⟨_, _, rfl, Nat.le_refl _, Nat.le_refl _, .inl hdead⟩, rfl⟩) walk).mono ?_
      rintro e W' ⟨rfl, hb⟩
      refine ⟨_, rfl, _, _, _, [], MemPlace.row a ([] : List Int).length, [], hW', ?_, ?_, rfl, hb.frame _, fun h => by cases h⟩
      · exact trodAll_mk1 (shut_bool Tryd.underlying4 true)
      · exact trodAll_mk1 ⟨2, shut_ints 0 Tryd.underlying49 Tryd.underlying3 (by kernel_rfl) (Nat.zero_le _) hl hm (by simp) (fun i hi => absurd hi (Nat.not_lt_zero _)) hwz⟩
    · obtain ⟨hspot, hblk, hobj⟩ := ints_obj hpos hcell
      have hr := rel0 (P := Tryd.prog) (T := 130) (K := 17) (txt := txt) (m := 1) (xs := fun _ => .cells .ro 1 (zs.map (.int .i64))) (xi := fun _ => (a.block, a.off)) (c := c) (o := o) (W := W) (by rw [gSize]; decide) hsz hs (fun j hj => ⟨_, _, rfl⟩) (fun j hj => ⟨hblk, hobj _ _ _⟩)
      have walk : WF F 9 [.slice 35 0 len cap true] (hp0 1 (fun _ => .cells .ro 1 (zs.map (.int .i64)))) (fun r _ => r = .ret (.bool true)) := by
        refine levels_law (ns := zs.take len) (gh0 1 _) ⟨?_, .inr ⟨35, 0, cap, true, 0, .ro, zs.map (.int .i64), ?_, ?_, ?_, ?_⟩⟩
        · rw [List.length_take, Nat.min_eq_left (by omega)]; rfl
        · rw [List.length_take, Nat.min_eq_left (by omega)]
        · rw [heap0_n, gSize]; decide
        · rw [heap0_get, gSize]; rfl
        · intro i n hi
          rw [List.getElem?_take] at hi
          split at hi
          · rw [Nat.zero_add, List.getElem?_map, hi]; rfl
          · cases hi
      have hio : iota0 Tryd.prog.globals.size 17 c o 1 (fun _ => (a.block, a.off)) 35 = some (a.block, a.off) := by
        unfold iota0; rw [gSize]; rfl
      have ha : a = ⟨a.block, a.off + 0, none⟩ := by cases a; simp only at hspot; subst hspot; rfl
      refine (run0 fok primsH hmix Tryd.func9 rfl (by kernel_rfl) hr (fun j hj => ⟨_, _, rfl⟩) (by simp only [VRL, VR]; exact ⟨_, _, rfl, ⟨_, _, rfl, hl, Nat.le_refl _, .inr ⟨_, _, hio, fun _ => ⟨rfl, ha⟩, fun h => by cases h⟩⟩, rfl⟩) walk).mono ?_
      rintro e W' ⟨rfl, hb⟩
      refine ⟨_, rfl, _, _, _, [], MemPlace.row a zs.length, [], hW', ?_, ?_, rfl, hb.frame _, fun h => by cases h⟩
      · exact trodAll_mk1 (shut_bool Tryd.underlying4 true)
      · exact trodAll_mk1 ⟨2, shut_ints 0 Tryd.underlying49 Tryd.underlying3 (by kernel_rfl) (Nat.zero_le _) hl hm (by simp [hblk]; omega) (fun i hi => (hb.cell (p := a.add i) (by rw [show (a.add i).block = a.block by unfold Addr.add; split <;> rfl]; exact hblk)).trans (hcell i hi)) hwz⟩

theorem treeLevels_holds : Rows.TreeLevelsSaid :=
  OpenClaim.holds_of_wide 9 Tryd.f9 rfl rfl rfl rfl rfl rfl rfl ⟨rfl, rfl, rfl, rfl, rfl⟩ rfl rfl rfl rfl rfl (by kernel_rfl) Tryd.func9 (by kernel_rfl)
    (of_decide_eq_true (by kernel_rfl)) (by unfold Func.isWrapper; first | (rw [if_pos (by decide +kernel)]; kernel_rfl) | (rw [if_neg (by decide +kernel)]; exact ⟨rfl, rfl⟩))
    (fun os started H enc _ => treeLevels_lifted os started H enc)

theorem treeLevels_card : Rows.TreeLevelsCardSaid :=
  Claim7.holds_tied_plain_at .later [] _ true (true, "b44672464d5ae22c4b4a8583ffe4d042fa20e77d43cc8cb8bf70fa911c194ce3") true
    treeLevels_holds (fun _ h => by cases h) (by kernel_rfl) (fun _ h => by cases h) treeLevels_row_tie rfl ⟨rfl, rfl⟩ (by kernel_rfl) rfl
    (fun f fn hf hfn => by
      obtain rfl : f = 9 := Option.some.inj ((show Tryd.prog.funcNamed "stockade/stockadelaw06.TreeLevels" = some 9 by kernel_rfl).symm.trans hf) |>.symm
      obtain rfl : fn = Tryd.f9 := (Option.some.inj (Tryd.func9.symm.trans hfn)).symm
      exact ⟨by kernel_rfl, fun j t ht => by
        rw [Tryd.params9] at ht
        have hm : t ∈ [49] := by simpa using Array.mem_of_getElem? ht
        have hall : ([49].all fun u => !Tryd.prog.wantsStandIn u) = true := by kernel_rfl
        exact (show Tryd.prog.wantsStandIn t = false by simpa using List.all_eq_true.1 hall t hm)⟩)
    (by kernel_rfl)
#print axioms treeLevels_card
end Go.Proofs.YtccenddkgeglmaaDoor
