/- ShowWords: which texts can be names, by their form and by their characters; for every text that fits in memory. -/
import Derived.Test.YteaoocedcjijdaaGreatDoorWCl0
import Derived.Test.YteaoocedcjijdaaGreatDoorWKC
import Derived.Test.YteaoocedcjijdaaGreatDoorWK20
import Derived.Test.YteaoocedcjijdaaGreatDoorCards
import Derived.Test.YteaoocedcjijdaaGreatDoorTie
import Derived.SevenTiedAt
set_option linter.all false
set_option linter.unusedVariables false
set_option linter.unusedSimpArgs false
namespace Go.Proofs.YteaoocedcjijdaaGreatDoor
open Go Go.Ev Go.ChangeShapes Go.WideShapes Go.ChangeAt Go.RowKit Go.ChangeMaps
set_option maxRecDepth 100000
set_option maxHeartbeats 4000000

theorem showWords_lifted (os : Os) (started : os.Started) (H : Type) (enc : TypeId × Value → H) :
    ReturnsInHanded {} Tryz.checked os 5 .any (fun w args => (Rows.showWordsSpec.pre enc Tryz.prog Tryz.f5 [] false w args ∧ laidMetH Tryz.prog Rows.showWordsRow.laid w) ∧ sizedMet enc Tryz.prog Tryz.f5 (OpenSpec.ofChange Rows.showWordsSpec) false w args)
      (Rows.showWordsSpec.post enc Tryz.prog Tryz.f5 false true false false) := by
  refine returns_open (C := Tryz.checked) (X := fun w _ => laidMetH Tryz.prog Rows.showWordsRow.laid w) (fun _ _ _ hh h => h.of_heap hh) dOwn started (by kernel_rfl) Tryz.func5 gPlain
    (ChangeSpec.witness_shaped (enc := enc) (C := Tryz.checked) (os := os) (X := fun w _ => laidMetH Tryz.prog Rows.showWordsRow.laid w) false (World.doorLaid Tryz.prog 400 os) #[.string ⟨#[]⟩] 8 rfl (World.shaped_of_RefB (by kernel_rfl) (by kernel_rfl)) (by kernel_rfl) (by kernel_rfl) (by kernel_rfl) (door_met os _)) ?_
  intro W base args ds gs before hsz hval0 hW _ hwt hL _
  have hval : ∀ (j : Nat) t v, Tryz.f5.params[j]? = some t → args[j]? = some v → Value.okWide Tryz.prog W .any base t v := hval0
  have hwt' : (DataW.weightsEach Tryz.prog (Tryz.f5.params.toList ++ Rows.showWordsSpec.plain.varTypes Tryz.prog) (ds ++ gs)).all (· ≤ reachBytes) = true := hwt
  have hW' := hW
  obtain ⟨p, q, hA0, hV, rfl, hfz, hnd⟩ := hW
  have hA : DataW.TrodAll enc Tryz.prog W 0 (fun _ => true) true Tryz.f5.params.toList args.toList ds p := hA0
  rw [Tryz.params5] at hA hval hwt'
  obtain ⟨v0, d0, rfl, rfl, h0⟩ := trodAll_one hA
  obtain ⟨rfl, rfl⟩ := trodVars_none hV
  obtain ⟨s0, rfl, rfl, rfl, hs0⟩ := open_string Tryz.underlying9 (hval 0 9 v0 rfl rfl) h0
  clear hA0 hval0 hwt
  have hL' : laidMet Tryz.prog (gPairs.map (laidRow "*errors.errorString")) W := by
    have h1 := hL
    rw [MakeChecks.laidMetH_plain _ _ _ (by kernel_rfl)] at h1
    exact laid_tail h1
  obtain ⟨c, o, hs, hz0⟩ := sents hL'
  have hr := rel0 (P := Tryz.prog) (kn := knG) (T := 218) (K := 17) (txt := txt) (m := 0) (xs := fun _ => .dead) (xi := fun _ => (0, 0)) (c := c) (o := o) (W := W) (by rw [gSize]; decide) hsz hs (fun g hg hk => (hz0 g hk).symm ▸ Nat.lt_of_lt_of_le (show 0 < Tryz.prog.globals.size by rw [gSize]; decide) hsz) (fun j hj => by omega) (fun j hj => by omega)
  have walk : WF F 5 [.str s0.data.toList] (hp0 0 (fun _ => .dead)) (fun r _ => r = .ret (.bool true)) := by
    rw [show hp0 0 (fun _ => .dead) = hq from by unfold hp0 hq; rw [gSize]]
    exact words_law (by have := str_small hwt'; have e : s0.data.toList.length = s0.size := rfl; omega) (LowEq.refl _) gh_hq
  refine (run0 fokF primsF hmix Tryz.func5 rfl (by kernel_rfl) hr (fun j hj => by omega) (by simp only [VRL, VR]; exact ⟨_, _, rfl, rfl, rfl⟩) walk).mono ?_
  rintro e W' ⟨rfl, hb⟩
  refine ⟨_, rfl, _, _, _, [], [], [], hW', ?_, ?_, rfl, hb.frame _, fun h => by cases h⟩
  · exact trodAll_mk1 (shut_bool Tryz.underlying4 true)
  · exact trodAll_mk1 (shut_string Tryz.underlying9 hs0)

theorem showWords_holds : Rows.ShowWordsSaid :=
  OpenClaim.holds_of_wide 5 Tryz.f5 rfl rfl rfl rfl rfl rfl rfl ⟨rfl, rfl, rfl, rfl, rfl⟩ rfl rfl rfl rfl rfl (by kernel_rfl) Tryz.func5 (by kernel_rfl)
    (of_decide_eq_true (by kernel_rfl)) (by unfold Func.isWrapper; first | (rw [if_pos (by decide +kernel)]; kernel_rfl) | (rw [if_neg (by decide +kernel)]; exact ⟨rfl, rfl⟩))
    (fun os started H enc _ => showWords_lifted os started H enc)

theorem showWords_card : Rows.ShowWordsCardSaid :=
  Claim7.holds_tied_plain_at .later [] _ true (true, "85452b5c00687bda5f8f476ec2bd734f7908f45cbbdd5b082db48429f3cd2c88") true
    showWords_holds (fun _ h => by cases h) (by kernel_rfl) (fun _ h => by cases h) showWords_row_tie rfl ⟨rfl, rfl⟩ (by kernel_rfl) rfl
    (fun f fn hf hfn => by
      obtain rfl : f = 5 := Option.some.inj ((show Tryz.prog.funcNamed "stockade/stockadelaw07.ShowWords" = some 5 by kernel_rfl).symm.trans hf) |>.symm
      obtain rfl : fn = Tryz.f5 := (Option.some.inj (Tryz.func5.symm.trans hfn)).symm
      exact ⟨by kernel_rfl, fun j t ht => by
        rw [Tryz.params5] at ht
        have hm : t ∈ [9] := by simpa using Array.mem_of_getElem? ht
        have hall : ([9].all fun u => !Tryz.prog.wantsStandIn u) = true := by kernel_rfl
        exact (show Tryz.prog.wantsStandIn t = false by simpa using List.all_eq_true.1 hall t hm)⟩)
    (by kernel_rfl)
#print axioms showWords_card
end Go.Proofs.YteaoocedcjijdaaGreatDoor
