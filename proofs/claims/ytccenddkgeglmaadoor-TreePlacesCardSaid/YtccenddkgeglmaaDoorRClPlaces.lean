/- Each node stands at a token, kids in order -/
import Derived.Test.YtccenddkgeglmaaDoorRCl0
import Derived.Test.YtccenddkgeglmaaDoorRK58
import Derived.Test.YtccenddkgeglmaaDoorCards
import Derived.Test.YtccenddkgeglmaaDoorTie
import Derived.SevenTiedAt
set_option linter.all false
set_option linter.unusedVariables false
set_option linter.unusedSimpArgs false
namespace Go.Proofs.YtccenddkgeglmaaDoor
open Go Go.Ev Go.ChangeShapes Go.WideShapes Go.ChangeAt Go.RowKit Go.ChangeMaps
set_option maxRecDepth 100000
set_option maxHeartbeats 4000000

theorem treePlaces_lifted (os : Os) (started : os.Started) (H : Type) (enc : TypeId × Value → H) :
    ReturnsInHanded {} Tryd.checked os 13 .any (fun w args => (Rows.treePlacesSpec.pre enc Tryd.prog Tryd.f13 [] false w args ∧ laidMetH Tryd.prog Rows.tokenIntsRow.laid w) ∧ sizedMet enc Tryd.prog Tryd.f13 (OpenSpec.ofChange Rows.treePlacesSpec) false w args)
      (Rows.treePlacesSpec.post enc Tryd.prog Tryd.f13 false true false false) := by
  refine returns_open (C := Tryd.checked) (X := fun w _ => laidMetH Tryd.prog Rows.tokenIntsRow.laid w) (fun _ _ _ hh h => h.of_heap hh) dOwn started (by kernel_rfl) Tryd.func13 gPlain
    (ChangeSpec.witness_shaped (enc := enc) (C := Tryd.checked) (os := os) (X := fun w _ => laidMetH Tryd.prog Rows.tokenIntsRow.laid w) false (World.doorLaid Tryd.prog 400 os) #[.string ⟨#[]⟩] 8 rfl (World.shaped_of_RefB (by kernel_rfl) (by kernel_rfl)) (by kernel_rfl) (by kernel_rfl) (by kernel_rfl) (door_met os _)) ?_
  intro W base args ds gs before hsz hval0 hW _ hwt hL _
  have hval : ∀ (j : Nat) t v, Tryd.f13.params[j]? = some t → args[j]? = some v → Value.okWide Tryd.prog W .any base t v := hval0
  have hwt' : (DataW.weightsEach Tryd.prog (Tryd.f13.params.toList ++ Rows.treePlacesSpec.plain.varTypes Tryd.prog) (ds ++ gs)).all (· ≤ reachBytes) = true := hwt
  have hW' := hW
  obtain ⟨p, q, hA0, hV, rfl, hfz, hnd⟩ := hW
  have hA : DataW.TrodAll enc Tryd.prog W 0 (fun _ => true) true Tryd.f13.params.toList args.toList ds p := hA0
  rw [Tryd.params13] at hA hval hwt'
  obtain ⟨v0, d0, rfl, rfl, h0⟩ := trodAll_one hA
  obtain ⟨rfl, rfl⟩ := trodVars_none hV
  obtain ⟨s0, rfl, rfl, rfl, hs0⟩ := open_string Tryd.underlying9 (hval 0 9 v0 rfl rfl) h0
  clear hA0 hval0 hwt
  have hL' : laidMet Tryd.prog (gPairs.map (laidRow "*errors.errorString")) W := by
    have h1 := hL
    rw [MakeChecks.laidMetH_plain _ _ _ (by kernel_rfl), gLaid] at h1
    exact h1
  obtain ⟨c, o, hs⟩ := sents hL'
  have hr := rel0 (P := Tryd.prog) (T := 130) (K := 17) (txt := txt) (m := 0) (xs := fun _ => .dead) (xi := fun _ => (0, 0)) (c := c) (o := o) (W := W) (by rw [gSize]; decide) hsz hs (fun j hj => by omega) (fun j hj => by omega)
  have walk : WF F 13 [.str s0.data.toList] (hp0 0 (fun _ => .dead)) (fun r _ => r = .ret (.bool true)) := by
    exact places_law (gh0 0 _) (str_small hwt')
  refine (run0 fok primsH hmix Tryd.func13 rfl (by kernel_rfl) hr (fun j hj => by omega) (by simp only [VRL, VR]; exact ⟨_, _, rfl, rfl, rfl⟩) walk).mono ?_
  rintro e W' ⟨rfl, hb⟩
  refine ⟨_, rfl, _, _, _, [], [], [], hW', ?_, ?_, rfl, hb.frame _, fun h => by cases h⟩
  · exact trodAll_mk1 (shut_bool Tryd.underlying4 true)
  · exact trodAll_mk1 (shut_string Tryd.underlying9 hs0)

theorem treePlaces_holds : Rows.TreePlacesSaid :=
  OpenClaim.holds_of_wide 13 Tryd.f13 rfl rfl rfl rfl rfl rfl rfl ⟨rfl, rfl, rfl, rfl, rfl⟩ rfl rfl rfl rfl rfl (by kernel_rfl) Tryd.func13 (by kernel_rfl)
    (of_decide_eq_true (by kernel_rfl)) (by unfold Func.isWrapper; first | (rw [if_pos (by decide +kernel)]; kernel_rfl) | (rw [if_neg (by decide +kernel)]; exact ⟨rfl, rfl⟩))
    (fun os started H enc _ => treePlaces_lifted os started H enc)

theorem treePlaces_card : Rows.TreePlacesCardSaid :=
  Claim7.holds_tied_plain_at .later [] _ true (true, "b44672464d5ae22c4b4a8583ffe4d042fa20e77d43cc8cb8bf70fa911c194ce3") true
    treePlaces_holds (fun _ h => by cases h) (by kernel_rfl) (fun _ h => by cases h) treePlaces_row_tie rfl ⟨rfl, rfl⟩ (by kernel_rfl) rfl
    (fun f fn hf hfn => by
      obtain rfl : f = 13 := Option.some.inj ((show Tryd.prog.funcNamed "stockade/stockadelaw06.TreePlaces" = some 13 by kernel_rfl).symm.trans hf) |>.symm
      obtain rfl : fn = Tryd.f13 := (Option.some.inj (Tryd.func13.symm.trans hfn)).symm
      exact ⟨by kernel_rfl, fun j t ht => by
        rw [Tryd.params13] at ht
        have hm : t ∈ [9] := by simpa using Array.mem_of_getElem? ht
        have hall : ([9].all fun u => !Tryd.prog.wantsStandIn u) = true := by kernel_rfl
        exact (show Tryd.prog.wantsStandIn t = false by simpa using List.all_eq_true.1 hall t hm)⟩)
    (by kernel_rfl)
#print axioms treePlaces_card
end Go.Proofs.YtccenddkgeglmaaDoor
