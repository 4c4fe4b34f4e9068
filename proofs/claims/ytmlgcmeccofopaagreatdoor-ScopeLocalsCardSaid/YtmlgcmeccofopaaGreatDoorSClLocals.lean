/- A function has no more locals than it may, whatever blocks they stand in: the row of ScopeLocals and its tied card. -/
import Derived.Test.YtmlgcmeccofopaaGreatDoorSCl0
import Derived.Test.YtmlgcmeccofopaaGreatDoorSKa
import Derived.Test.YtmlgcmeccofopaaGreatDoorSKsw
import Derived.Test.YtmlgcmeccofopaaGreatDoorCards
import Derived.Test.YtmlgcmeccofopaaGreatDoorTie
import Derived.SevenTiedAt
set_option linter.all false
set_option linter.unusedVariables false
set_option linter.unusedSimpArgs false
namespace Go.Proofs.YtmlgcmeccofopaaGreatDoor
open Go Go.Ev Go.ChangeShapes Go.WideShapes Go.ChangeAt Go.RowKit Go.ChangeMaps
set_option maxRecDepth 100000
set_option maxHeartbeats 4000000

theorem scopeLocals_lifted (os : Os) (started : os.Started) (H : Type) (enc : TypeId × Value → H) :
    ReturnsInHanded {} Tryz.checked os 5 .any (fun w args => (Rows.scopeLocalsSpec.pre enc Tryz.prog Tryz.f5 [] false w args ∧ laidMetH Tryz.prog Rows.kindOneRow.laid w) ∧ sizedMet enc Tryz.prog Tryz.f5 (OpenSpec.ofChange Rows.scopeLocalsSpec) false w args)
      (Rows.scopeLocalsSpec.post enc Tryz.prog Tryz.f5 false true false false) := by
  refine returns_open (C := Tryz.checked) (X := fun w _ => laidMetH Tryz.prog Rows.kindOneRow.laid w) (fun _ _ _ hh h => h.of_heap hh) dOwn started (by kernel_rfl) Tryz.func5 gPlain
    (ChangeSpec.witness_shaped (enc := enc) (C := Tryz.checked) (os := os) (X := fun w _ => laidMetH Tryz.prog Rows.kindOneRow.laid w) false (World.doorLaid Tryz.prog 400 os) #[.int .i64 0, .int .i64 0] 8 rfl (World.shaped_of_RefB (by kernel_rfl) (by kernel_rfl)) (by kernel_rfl) (by kernel_rfl) (by kernel_rfl) (door_met os _)) ?_
  intro W base args ds gs before hsz hval0 hW _ hwt hL _
  have hval : ∀ (j : Nat) t v, Tryz.f5.params[j]? = some t → args[j]? = some v → Value.okWide Tryz.prog W .any base t v := hval0
  have hwt' : (DataW.weightsEach Tryz.prog (Tryz.f5.params.toList ++ Rows.scopeLocalsSpec.plain.varTypes Tryz.prog) (ds ++ gs)).all (· ≤ reachBytes) = true := hwt
  have hW' := hW
  obtain ⟨p, q, hA0, hV, rfl, hfz, hnd⟩ := hW
  have hA : DataW.TrodAll enc Tryz.prog W 0 (fun _ => true) true Tryz.f5.params.toList args.toList ds p := hA0
  rw [Tryz.params5] at hA hval hwt'
  obtain ⟨v0, v1, d0, d1, p0, p1, rfl, rfl, rfl, h0, h1⟩ := trodAll_two hA
  obtain ⟨rfl, rfl⟩ := trodVars_none hV
  obtain ⟨n0, rfl, rfl, rfl, wn0⟩ := open_int Tryz.underlying3 (hval 0 3 v0 rfl rfl) h0
  obtain ⟨n1, rfl, rfl, rfl, wn1⟩ := open_int Tryz.underlying3 (hval 1 3 v1 rfl rfl) h1
  clear hA0 hval0 hwt
  have hL' : laidMet Tryz.prog (gPairs.map (laidRow "*errors.errorString")) W := by
    have h1 := hL
    rw [MakeChecks.laidMetH_plain _ _ _ (by kernel_rfl), gLaid] at h1
    exact h1
  obtain ⟨c, o, hs⟩ := sents hL'
  have hr := rel0 (P := Tryz.prog) (T := 238) (K := 17) (txt := txt) (m := 0) (xs := fun _ => .dead) (xi := fun _ => (0, 0)) (c := c) (o := o) (W := W) (by rw [gSize]; decide) hsz hs (fun j hj => by omega) (fun j hj => by omega)
  have walk : WF F 5 [.int .i64 n0, .int .i64 n1] (hp0 0 (fun _ => .dead)) (fun r _ => r = .ret (.bool true)) := by
    rw [show hp0 0 (fun _ => .dead) = hq from by unfold hp0 hq; rw [gSize]]
    exact locals_walk
  refine (run0 fokF primsF hmix Tryz.func5 rfl (by kernel_rfl) hr (fun j hj => by omega) (by simp only [VRL, VR]; exact ⟨_, _, rfl, rfl, _, _, rfl, rfl, rfl⟩) walk).mono ?_
  rintro e W' ⟨rfl, hb⟩
  refine ⟨_, rfl, _, _, _, [], [] ++ [], [], hW', ?_, ?_, rfl, hb.frame _, fun h => by cases h⟩
  · exact trodAll_mk1 (shut_bool Tryz.underlying4 true)
  · exact trodAll_mk2 (shut_int Tryz.underlying3 wn0) (shut_int Tryz.underlying3 wn1)

theorem scopeLocals_holds : Rows.ScopeLocalsSaid :=
  OpenClaim.holds_of_wide 5 Tryz.f5 rfl rfl rfl rfl rfl rfl rfl ⟨rfl, rfl, rfl, rfl, rfl⟩ rfl rfl rfl rfl rfl (by kernel_rfl) Tryz.func5 (by kernel_rfl)
    (of_decide_eq_true (by kernel_rfl)) (by unfold Func.isWrapper; first | (rw [if_pos (by decide +kernel)]; kernel_rfl) | (rw [if_neg (by decide +kernel)]; exact ⟨rfl, rfl⟩))
    (fun os started H enc _ => scopeLocals_lifted os started H enc)

theorem scopeLocals_card : Rows.ScopeLocalsCardSaid :=
  Claim7.holds_tied_plain_at .later [] _ true (true, "496ba2b676fb428efae1977645ecd8c395098a648824b36ca509690fee1b903d") true
    scopeLocals_holds (fun _ h => by cases h) (by kernel_rfl) (fun _ h => by cases h) scopeLocals_row_tie rfl ⟨rfl, rfl⟩ (by kernel_rfl) rfl
    (fun f fn hf hfn => by
      obtain rfl : f = 5 := Option.some.inj ((show Tryz.prog.funcNamed "stockade/stockadelaw08.ScopeLocals" = some 5 by kernel_rfl).symm.trans hf) |>.symm
      obtain rfl : fn = Tryz.f5 := (Option.some.inj (Tryz.func5.symm.trans hfn)).symm
      exact ⟨by kernel_rfl, fun j t ht => by
        rw [Tryz.params5] at ht
        have hm : t ∈ [3, 3] := by simpa using Array.mem_of_getElem? ht
        have hall : ([3, 3].all fun u => !Tryz.prog.wantsStandIn u) = true := by kernel_rfl
        exact (show Tryz.prog.wantsStandIn t = false by simpa using List.all_eq_true.1 hall t hm)⟩)
    (by kernel_rfl)
#print axioms scopeLocals_card
end Go.Proofs.YtmlgcmeccofopaaGreatDoor
