/- Every int in digits is one token of that int, whatever the input: the row of TokenInts and its tied card. -/
import Derived.Test.YtccenddkgeglmaaDoorTCl0
import Derived.Test.YtccenddkgeglmaaDoorTK12
import Derived.Test.YtccenddkgeglmaaDoorCards
import Derived.Test.YtccenddkgeglmaaDoorTie
import Derived.SevenTiedAt
set_option linter.all false
set_option linter.unusedVariables false
set_option linter.unusedSimpArgs false
namespace Go.Proofs.YtccenddkgeglmaaDoor
open Go Go.Ev Go.ChangeShapes Go.WideShapes Go.ChangeAt Go.RowKit
set_option maxRecDepth 100000

theorem ints_lifted (os : Os) (started : os.Started) (H : Type) (enc : TypeId × Value → H) :
    ReturnsInHanded {} Tryd.checked os 4 .any (fun w args => (Rows.tokenIntsSpec.pre enc Tryd.prog Tryd.f4 [] false w args ∧ laidMetH Tryd.prog Rows.tokenIntsRow.laid w) ∧ sizedMet enc Tryd.prog Tryd.f4 (OpenSpec.ofChange Rows.tokenIntsSpec) false w args)
      (Rows.tokenIntsSpec.post enc Tryd.prog Tryd.f4 false true false false) := by
  refine returns_open (C := Tryd.checked) (X := fun w _ => laidMetH Tryd.prog Rows.tokenIntsRow.laid w) (fun _ _ _ hh h => h.of_heap hh) dOwn started (by kernel_rfl) Tryd.func4 gPlain
    (ChangeSpec.witness_shaped (enc := enc) (C := Tryd.checked) (os := os) (X := fun w _ => laidMetH Tryd.prog Rows.tokenIntsRow.laid w) false (World.doorLaid Tryd.prog 400 os) #[.int .i64 0] 8 rfl (World.shaped_of_RefB (by kernel_rfl) (by kernel_rfl)) (by kernel_rfl) (by kernel_rfl) (by kernel_rfl) (door_met os _)) ?_
  intro W base args ds gs before hsz hval0 hW _ _ hL _
  have hval : ∀ (j : Nat) t v, Tryd.f4.params[j]? = some t → args[j]? = some v → Value.okWide Tryd.prog W .any base t v := hval0
  have hW' := hW
  obtain ⟨p, q, hA0, hV, rfl, hfz, hnd⟩ := hW
  have hA : DataW.TrodAll enc Tryd.prog W 0 (fun _ => true) true Tryd.f4.params.toList args.toList ds p := hA0
  rw [Tryd.params4] at hA hval
  obtain ⟨v0, d0, rfl, rfl, h0⟩ := trodAll_one hA
  obtain ⟨rfl, rfl⟩ := trodVars_none hV
  obtain ⟨n, rfl, rfl, rfl, wn⟩ := open_int Tryd.underlying3 (hval 0 3 v0 rfl rfl) h0
  clear hA0 hval0
  have hL' : laidMet Tryd.prog (gPairs.map (laidRow "*errors.errorString")) W := by
    have h1 := hL
    rw [MakeChecks.laidMetH_plain _ _ _ (by kernel_rfl), gLaid] at h1
    exact h1
  obtain ⟨c, o, hs⟩ := sents hL'
  have hr := rel0 (P := Tryd.prog) (T := 130) (K := 17) (txt := txt) (m := 0) (xs := fun _ => .dead) (xi := fun _ => (0, 0)) (c := c) (o := o) (W := W) (by rw [gSize]; decide) hsz hs (fun j hj => by omega) (fun j hj => by omega)
  refine (run0 fok primsH hmix Tryd.func4 rfl (by kernel_rfl) hr (fun j hj => by omega) (args := [.int .i64 n]) (by simp only [VRL, VR]; exact ⟨_, _, rfl, rfl, rfl⟩) (ints_law (gh0 0 _))).mono ?_
  rintro e W' ⟨rfl, hb⟩
  refine ⟨_, rfl, _, _, _, [], [], [], hW', ?_, ?_, rfl, hb.frame _, fun h => by cases h⟩
  · exact trodAll_mk1 (shut_bool Tryd.underlying4 true)
  · exact trodAll_mk1 (shut_int Tryd.underlying3 wn)

theorem ints_holds : Rows.TokenIntsSaid :=
  OpenClaim.holds_of_wide 4 Tryd.f4 rfl rfl rfl rfl rfl rfl rfl ⟨rfl, rfl, rfl, rfl, rfl⟩ rfl rfl rfl rfl rfl (by kernel_rfl) Tryd.func4 (by kernel_rfl)
    (of_decide_eq_true (by kernel_rfl)) (by unfold Func.isWrapper; first | (rw [if_pos (by decide +kernel)]; kernel_rfl) | (rw [if_neg (by decide +kernel)]; exact ⟨rfl, rfl⟩))
    (fun os started H enc _ => ints_lifted os started H enc)

theorem ints_card : Rows.TokenIntsCardSaid :=
  Claim7.holds_tied_plain_at .later [] _ true (true, "b44672464d5ae22c4b4a8583ffe4d042fa20e77d43cc8cb8bf70fa911c194ce3") true
    ints_holds (fun _ h => by cases h) (by kernel_rfl) (fun _ h => by cases h) tokenInts_row_tie rfl ⟨rfl, rfl⟩ (by kernel_rfl) rfl
    (fun f fn hf hfn => by
      obtain rfl : f = 4 := Option.some.inj ((show Tryd.prog.funcNamed "stockade/stockadelaw05.TokenInts" = some 4 by kernel_rfl).symm.trans hf) |>.symm
      obtain rfl : fn = Tryd.f4 := (Option.some.inj (Tryd.func4.symm.trans hfn)).symm
      exact ⟨by kernel_rfl, fun j t ht => by
        rw [Tryd.params4] at ht
        have hm : t ∈ [3] := by simpa using Array.mem_of_getElem? ht
        have hall : ([3].all fun u => !Tryd.prog.wantsStandIn u) = true := by kernel_rfl
        exact (show Tryd.prog.wantsStandIn t = false by simpa using List.all_eq_true.1 hall t hm)⟩)
    (by kernel_rfl)
#print axioms ints_card
end Go.Proofs.YtccenddkgeglmaaDoor
