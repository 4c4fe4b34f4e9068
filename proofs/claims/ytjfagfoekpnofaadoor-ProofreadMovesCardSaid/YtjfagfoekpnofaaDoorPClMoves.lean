/- A right code with a Turn ahead is right again, of all codes: the row of ProofreadMoves and its tied card. -/
import Derived.Test.YtjfagfoekpnofaaDoorPCl0
import Derived.Test.YtjfagfoekpnofaaDoorPOpC
import Derived.Test.YtjfagfoekpnofaaDoorPP18
import Derived.Test.YtjfagfoekpnofaaDoorCards
import Derived.Test.YtjfagfoekpnofaaDoorTie
import Derived.SevenTiedAt
set_option linter.all false
set_option linter.unusedVariables false
set_option linter.unusedSimpArgs false
namespace Go.Proofs.YtjfagfoekpnofaaDoor
open Go Go.Ev Go.ChangeShapes Go.WideShapes Go.ChangeAt Go.RowKit Go.ChangeMaps
set_option maxRecDepth 100000
set_option maxHeartbeats 4000000

abbrev zCode : Value := .agg #[.slice none 0 0, .int .i64 0, .int .i64 0, .slice none 0 0, .slice none 0 0, .int .i64 0, .slice none 0 0]
theorem proofreadMoves_lifted (os : Os) (started : os.Started) (H : Type) (enc : TypeId × Value → H) :
    ReturnsInHanded {} Tryd.checked os 3 .any (fun w args => (Rows.proofreadMovesSpec.pre enc Tryd.prog Tryd.f3 [] false w args ∧ laidMetH Tryd.prog Rows.proofreadMovesRow.laid w) ∧ sizedMet enc Tryd.prog Tryd.f3 (OpenSpec.ofChange Rows.proofreadMovesSpec) false w args)
      (Rows.proofreadMovesSpec.post enc Tryd.prog Tryd.f3 false true false false) := by
  refine returns_open (C := Tryd.checked) (X := fun w _ => laidMetH Tryd.prog Rows.proofreadMovesRow.laid w) (fun _ _ _ hh h => h.of_heap hh) dOwn started (by kernel_rfl) Tryd.func3 gPlain
    (ChangeSpec.witness_shaped (enc := enc) (C := Tryd.checked) (os := os) (X := fun w _ => laidMetH Tryd.prog Rows.proofreadMovesRow.laid w) false (World.doorLaid Tryd.prog 400 os) #[zCode] 8 rfl (World.shaped_of_RefB (by kernel_rfl) (by kernel_rfl)) (by kernel_rfl) (by kernel_rfl) (by kernel_rfl) (door_met os _)) ?_
  intro W base args ds gs before hsz hval0 hW _ hwt hL _
  have hval : ∀ (j : Nat) t v, Tryd.f3.params[j]? = some t → args[j]? = some v → Value.okWide Tryd.prog W .any base t v := hval0
  have hwt' : (DataW.weightsEach Tryd.prog (Tryd.f3.params.toList ++ Rows.proofreadMovesSpec.plain.varTypes Tryd.prog) (ds ++ gs)).all (· ≤ reachBytes) = true := hwt
  have hW' := hW
  obtain ⟨p, q, hA0, hV, rfl, hfz, hnd⟩ := hW
  have hA : DataW.TrodAll enc Tryd.prog W 0 (fun _ => true) true Tryd.f3.params.toList args.toList ds p := hA0
  rw [Tryd.params3] at hA hval hwt'
  obtain ⟨v0, d0, rfl, rfl, h0⟩ := trodAll_one hA
  obtain ⟨rfl, rfl⟩ := trodVars_none hV
  clear hA0 hval0 hwt
  have hL' : laidMet Tryd.prog (gPairs.map (laidRow "*errors.errorString")) W := by
    have h1 := hL
    rw [MakeChecks.laidMetH_plain _ _ _ (by kernel_rfl), gLaid] at h1
    exact h1
  obtain ⟨c, o, hs⟩ := sents hL'
  have hr := rel0 (P := Tryd.prog) (T := 99) (K := 17) (txt := txt) (m := 0) (xs := fun _ => .dead) (xi := fun _ => (0, 0)) (c := c) (o := o) (W := W) (by rw [gSize]; decide) hsz hs (fun j hj => by omega) (fun j hj => by omega)
  have hlt0 : ∀ x ∈ p, x.block < W.heap.size := fun x hx => by obtain ⟨k, hk⟩ := h0; exact DataW.trod_lt k _ _ _ hk x hx
  obtain ⟨cs0, rfl, _⟩ := okWide_struct Tryd.underlying27 (hval 0 27 v0 rfl rfl)
  have hg := iota0_glob (P := Tryd.prog) (K := 17) (c := c) (o := o) (m := 0) (xi := fun _ => (0, 0))
  obtain ⟨e0, r0, no0, hdead⟩ := rel_dead hr noOwn0
  have hS : plainT Tryd.prog [27, 22, 23, 24, 25, 60, 39, 37, 3, 35] = true := by kernel_rfl
  have hgh := gh0 0 (fun _ => .dead)
  obtain ⟨k0, hk0⟩ := h0
  obtain ⟨ι1, H1, vs0, e1, r1, no1, v1, dr0⟩ := opens_plain hS k0 27 _ _ (by simp) hk0 _ _ r0 no0 hdead
  obtain ⟨a, pv, chv, fv, bv, rfl, ka⟩ := code_of dr0 (weightsEach_get (i := 0) rfl rfl hwt')
  have e01 := e0.trans e1
  have hGH : GH H1 := (show Fr (heap0 99 Tryd.prog.globals.size 17 txt 0 (fun _ => .dead)).n _ H1 from ⟨e01.n, fun b hb _ => e01.old b hb⟩).gh hgh.n hgh
  have walk : WF F 3 [.agg (cdC a pv chv fv bv)] H1 (fun r _ => r = .ret (.bool true)) := moves_law hGH ka
  have vv : VRL ι1 (infoOf H1.get) (wsz W) [.agg (cdC a pv chv fv bv)] #[Value.agg cs0].toList := by
    simp only [VRL, VR]
    exact ⟨_, _, rfl, ⟨_, rfl, v1⟩, rfl⟩
  refine (run1 fok primsH hmix Tryd.func3 rfl (by kernel_rfl) r1 (e01.glob hg) no1 vv walk).mono ?_
  rintro e W' ⟨rfl, hb⟩
  refine ⟨_, rfl, _, _, _, [], p, [], hW', ?_, ?_, rfl, hb.frame _, fun h => by cases h⟩
  · exact trodAll_mk1 (shut_bool Tryd.underlying4 true)
  · exact trodAll_mk1 (Below.trod (by kernel_rfl) (by kernel_rfl) (of_decide_eq_true (by kernel_rfl)) ⟨k0, hk0⟩ hb hlt0)

theorem proofreadMoves_holds : Rows.ProofreadMovesSaid :=
  OpenClaim.holds_of_wide 3 Tryd.f3 rfl rfl rfl rfl rfl rfl rfl ⟨rfl, rfl, rfl, rfl, rfl⟩ rfl rfl rfl rfl rfl (by kernel_rfl) Tryd.func3 (by kernel_rfl)
    (of_decide_eq_true (by kernel_rfl)) (by unfold Func.isWrapper; first | (rw [if_pos (by decide +kernel)]; kernel_rfl) | (rw [if_neg (by decide +kernel)]; exact ⟨rfl, rfl⟩))
    (fun os started H enc _ => proofreadMoves_lifted os started H enc)

theorem proofreadMoves_card : Rows.ProofreadMovesCardSaid :=
  Claim7.holds_tied_plain_at .later [] _ true (true, "83b97d1fddd26909ceb49febb7101f9265f66d5570dd89669198eb3c4f52cebb") true
    proofreadMoves_holds (fun _ h => by cases h) (by kernel_rfl) (fun _ h => by cases h) proofreadMoves_row_tie rfl ⟨rfl, rfl⟩ (by kernel_rfl) rfl
    (fun f fn hf hfn => by
      obtain rfl : f = 3 := Option.some.inj ((show Tryd.prog.funcNamed "stockade/stockadelaw16.ProofreadMoves" = some 3 by kernel_rfl).symm.trans hf) |>.symm
      obtain rfl : fn = Tryd.f3 := (Option.some.inj (Tryd.func3.symm.trans hfn)).symm
      exact ⟨by kernel_rfl, fun j t ht => by
        rw [Tryd.params3] at ht
        have hm : t ∈ [27] := by simpa using Array.mem_of_getElem? ht
        have hall : ([27].all fun u => !Tryd.prog.wantsStandIn u) = true := by kernel_rfl
        exact (show Tryd.prog.wantsStandIn t = false by simpa using List.all_eq_true.1 hall t hm)⟩)
    (by kernel_rfl)
#print axioms proofreadMoves_card
end Go.Proofs.YtjfagfoekpnofaaDoor
