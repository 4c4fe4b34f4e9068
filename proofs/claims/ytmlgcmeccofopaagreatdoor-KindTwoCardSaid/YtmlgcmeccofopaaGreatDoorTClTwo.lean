/- Which binary operator takes which types, and what it gives, whatever the input: the row of KindTwo and its tied card. -/
import Derived.Test.YtmlgcmeccofopaaGreatDoorTCl0
import Derived.Test.YtmlgcmeccofopaaGreatDoorTKa
import Derived.Test.YtmlgcmeccofopaaGreatDoorTOpK
import Derived.Test.YtmlgcmeccofopaaGreatDoorTKtw
import Derived.Test.YtmlgcmeccofopaaGreatDoorCards
import Derived.Test.YtmlgcmeccofopaaGreatDoorTie
import Derived.SevenTiedAt
set_option linter.all false
set_option linter.unusedVariables false
set_option linter.unusedSimpArgs false
namespace Go.Proofs.YtmlgcmeccofopaaGreatDoor
open Go Go.Ev Go.ChangeShapes Go.WideShapes Go.ChangeAt Go.RowKit Go.ChangeMaps
set_option maxRecDepth 100000
set_option maxHeartbeats 4000000

abbrev zTwo : Value := .agg #[.int .i64 0, .int .i64 0, .int .i64 0, .int .i64 0]
theorem kindTwo_lifted (os : Os) (started : os.Started) (H : Type) (enc : TypeId × Value → H) :
    ReturnsInHanded {} Tryz.checked os 7 .any (fun w args => (Rows.kindTwoSpec.pre enc Tryz.prog Tryz.f7 [] false w args ∧ laidMetH Tryz.prog Rows.kindOneRow.laid w) ∧ sizedMet enc Tryz.prog Tryz.f7 (OpenSpec.ofChange Rows.kindTwoSpec) false w args)
      (Rows.kindTwoSpec.post enc Tryz.prog Tryz.f7 false true false false) := by
  refine returns_open (C := Tryz.checked) (X := fun w _ => laidMetH Tryz.prog Rows.kindOneRow.laid w) (fun _ _ _ hh h => h.of_heap hh) dOwn started (by kernel_rfl) Tryz.func7 gPlain
    (ChangeSpec.witness_shaped (enc := enc) (C := Tryz.checked) (os := os) (X := fun w _ => laidMetH Tryz.prog Rows.kindOneRow.laid w) false (World.doorLaid Tryz.prog 400 os) #[zTwo] 8 rfl (World.shaped_of_RefB (by kernel_rfl) (by kernel_rfl)) (by kernel_rfl) (by kernel_rfl) (by kernel_rfl) (door_met os _)) ?_
  intro W base args ds gs before hsz hval0 hW _ hwt hL _
  have hval : ∀ (j : Nat) t v, Tryz.f7.params[j]? = some t → args[j]? = some v → Value.okWide Tryz.prog W .any base t v := hval0
  have hwt' : (DataW.weightsEach Tryz.prog (Tryz.f7.params.toList ++ Rows.kindTwoSpec.plain.varTypes Tryz.prog) (ds ++ gs)).all (· ≤ reachBytes) = true := hwt
  have hW' := hW
  obtain ⟨p, q, hA0, hV, rfl, hfz, hnd⟩ := hW
  have hA : DataW.TrodAll enc Tryz.prog W 0 (fun _ => true) true Tryz.f7.params.toList args.toList ds p := hA0
  rw [Tryz.params7] at hA hval hwt'
  obtain ⟨v0, d0, rfl, rfl, h0⟩ := trodAll_one hA
  obtain ⟨rfl, rfl⟩ := trodVars_none hV
  clear hA0 hval0 hwt
  have hL' : laidMet Tryz.prog (gPairs.map (laidRow "*errors.errorString")) W := by
    have h1 := hL
    rw [MakeChecks.laidMetH_plain _ _ _ (by kernel_rfl), gLaid] at h1
    exact h1
  obtain ⟨c, o, hs⟩ := sents hL'
  have hr := rel0 (P := Tryz.prog) (T := 238) (K := 17) (txt := txt) (m := 0) (xs := fun _ => .dead) (xi := fun _ => (0, 0)) (c := c) (o := o) (W := W) (by rw [gSize]; decide) hsz hs (fun j hj => by omega) (fun j hj => by omega)
  have hlt0 : ∀ x ∈ p, x.block < W.heap.size := fun x hx => by obtain ⟨k, hk⟩ := h0; exact DataW.trod_lt k _ _ _ hk x hx
  obtain ⟨cs0, rfl, _⟩ := okWide_struct Tryz.underlying59 (hval 0 59 v0 rfl rfl)
  obtain ⟨e0, r0, no0, hdead⟩ := rel_dead hr noOwn0
  have hS : plainT Tryz.prog [59, 3] = true := by kernel_rfl
  obtain ⟨k0, hk0⟩ := h0
  obtain ⟨ι1, H1, vs0, e1, r1, no1, v1, dr0⟩ := opens_plain hS k0 59 _ _ (by simp) hk0 _ _ r0 no0 hdead
  obtain ⟨n0, n1, n2, n3, rfl⟩ := two_of dr0
  have walk : WF F 7 [.agg [.int .i64 n0, .int .i64 n1, .int .i64 n2, .int .i64 n3]] (hp0 0 (fun _ => .dead)) (fun r _ => r = .ret (.bool true)) := by
    rw [show hp0 0 (fun _ => .dead) = hq from by unfold hp0 hq; rw [gSize]]
    exact two_walk
  refine (run0 fokF primsF hmix Tryz.func7 rfl (by kernel_rfl) hr (fun j hj => by omega) (by simp only [VRL, VR] at v1 ⊢; exact ⟨_, _, rfl, ⟨_, rfl, v1⟩, rfl⟩) walk).mono ?_
  rintro e W' ⟨rfl, hb⟩
  refine ⟨_, rfl, _, _, _, [], p, [], hW', ?_, ?_, rfl, hb.frame _, fun h => by cases h⟩
  · exact trodAll_mk1 (shut_bool Tryz.underlying4 true)
  · exact trodAll_mk1 (Below.trod (by kernel_rfl) (by kernel_rfl) (of_decide_eq_true (by kernel_rfl)) ⟨k0, hk0⟩ hb hlt0)

theorem kindTwo_holds : Rows.KindTwoSaid :=
  OpenClaim.holds_of_wide 7 Tryz.f7 rfl rfl rfl rfl rfl rfl rfl ⟨rfl, rfl, rfl, rfl, rfl⟩ rfl rfl rfl rfl rfl (by kernel_rfl) Tryz.func7 (by kernel_rfl)
    (of_decide_eq_true (by kernel_rfl)) (by unfold Func.isWrapper; first | (rw [if_pos (by decide +kernel)]; kernel_rfl) | (rw [if_neg (by decide +kernel)]; exact ⟨rfl, rfl⟩))
    (fun os started H enc _ => kindTwo_lifted os started H enc)

theorem kindTwo_card : Rows.KindTwoCardSaid :=
  Claim7.holds_tied_plain_at .later [] _ true (true, "496ba2b676fb428efae1977645ecd8c395098a648824b36ca509690fee1b903d") true
    kindTwo_holds (fun _ h => by cases h) (by kernel_rfl) (fun _ h => by cases h) kindTwo_row_tie rfl ⟨rfl, rfl⟩ (by kernel_rfl) rfl
    (fun f fn hf hfn => by
      obtain rfl : f = 7 := Option.some.inj ((show Tryz.prog.funcNamed "stockade/stockadelaw09.KindTwo" = some 7 by kernel_rfl).symm.trans hf) |>.symm
      obtain rfl : fn = Tryz.f7 := (Option.some.inj (Tryz.func7.symm.trans hfn)).symm
      exact ⟨by kernel_rfl, fun j t ht => by
        rw [Tryz.params7] at ht
        have hm : t ∈ [59] := by simpa using Array.mem_of_getElem? ht
        have hall : ([59].all fun u => !Tryz.prog.wantsStandIn u) = true := by kernel_rfl
        exact (show Tryz.prog.wantsStandIn t = false by simpa using List.all_eq_true.1 hall t hm)⟩)
    (by kernel_rfl)
#print axioms kindTwo_card
end Go.Proofs.YtmlgcmeccofopaaGreatDoor
