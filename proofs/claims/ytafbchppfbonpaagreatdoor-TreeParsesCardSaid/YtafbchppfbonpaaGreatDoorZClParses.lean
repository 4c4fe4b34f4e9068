/- Every text is the program's tree, or has the error, whatever the input: the row of TreeParses and its tied card. -/
import Derived.Test.YtafbchppfbonpaaGreatDoorZCl0
import Derived.Test.YtafbchppfbonpaaGreatDoorZK34
import Derived.Test.YtafbchppfbonpaaGreatDoorCards
import Derived.Test.YtafbchppfbonpaaGreatDoorTie
import Derived.SevenTiedAt
set_option linter.all false
set_option linter.unusedVariables false
set_option linter.unusedSimpArgs false
namespace Go.Proofs.YtafbchppfbonpaaGreatDoor
open Go Go.Ev Go.ChangeShapes Go.WideShapes Go.ChangeAt Go.RowKit Go.ChangeMaps
set_option maxRecDepth 100000
set_option maxHeartbeats 4000000
theorem treeParses_lifted (os:Os) (started:os.Started) (H:Type) (enc:TypeId×Value→H) :
  ReturnsInHanded {} Tryz.checked os 3 .any (fun w args=>(Rows.treeParsesSpec.pre enc Tryz.prog Tryz.f3 [] false w args∧laidMetH Tryz.prog Rows.treeParsesRow.laid w)∧sizedMet enc Tryz.prog Tryz.f3 (OpenSpec.ofChange Rows.treeParsesSpec) false w args)
   (Rows.treeParsesSpec.post enc Tryz.prog Tryz.f3 false true false false):=by
 refine returns_open (C:=Tryz.checked) (X:=fun w _=>laidMetH Tryz.prog Rows.treeParsesRow.laid w) (fun _ _ _ hh h=>h.of_heap hh) dOwn started (by kernel_rfl) Tryz.func3 gPlain
  (ChangeSpec.witness_shaped (enc:=enc) (C:=Tryz.checked) (os:=os) (X:=fun w _=>laidMetH Tryz.prog Rows.treeParsesRow.laid w) false (World.doorLaid Tryz.prog 400 os) #[.string ⟨#[]⟩] 8 rfl (World.shaped_of_RefB (by kernel_rfl) (by kernel_rfl)) (by kernel_rfl) (by kernel_rfl) (by kernel_rfl) (door_met os _)) ?_
 intro W base args ds gs before hsz hval0 hW _ hwt hL _
 have hval:∀(j:Nat) t v,Tryz.f3.params[j]?=some t→args[j]?=some v→Value.okWide Tryz.prog W .any base t v:=hval0
 have hwt':(DataW.weightsEach Tryz.prog (Tryz.f3.params.toList++Rows.treeParsesSpec.plain.varTypes Tryz.prog) (ds++gs)).all (·≤reachBytes)=true:=hwt
 have hW':=hW
 obtain ⟨p,q,hA0,hV,rfl,hfz,hnd⟩:=hW
 have hA:DataW.TrodAll enc Tryz.prog W 0 (fun _=>true) true Tryz.f3.params.toList args.toList ds p:=hA0
 rw[Tryz.params3] at hA hval hwt'
 obtain ⟨v0,d0,rfl,rfl,h0⟩:=trodAll_one hA
 obtain ⟨rfl,rfl⟩:=trodVars_none hV
 obtain ⟨s0,rfl,rfl,rfl,hs0⟩:=open_string Tryz.underlying9 (hval 0 9 v0 rfl rfl) h0
 clear hA0 hval0 hwt
 have hL':laidMet Tryz.prog (gPairs.map (laidRow "*errors.errorString")) W:=by
  have h1:=hL
  rw[MakeChecks.laidMetH_plain _ _ _ (by kernel_rfl),gLaid] at h1
  exact h1
 obtain ⟨c,o,hs⟩:=sents hL'
 have hr:=rel0 (P:=Tryz.prog) (T:=109) (K:=17) (txt:=txt) (m:=0) (xs:=fun _=>.dead) (xi:=fun _=>(0,0)) (c:=c) (o:=o) (W:=W) (by rw[gSize];decide) hsz hs (fun j hj=>by omega) (fun j hj=>by omega)
 have walk:WF F 3 [.str s0.data.toList] (hp0 0 (fun _=>.dead)) (fun r _=>r=.ret (.bool true)):=by
  exact parses_law (gh0 0 _) (str_small hwt')
 refine (run0 fok primsH hmix Tryz.func3 rfl (by kernel_rfl) hr (fun j hj=>by omega) (by simp only[VRL,VR];exact ⟨_,_,rfl,rfl,rfl⟩) walk).mono ?_
 rintro e W' ⟨rfl,hb⟩
 refine ⟨_,rfl,_,_,_,[],[],[],hW',?_,?_,rfl,hb.frame _,fun h=>by cases h⟩
 ·exact trodAll_mk1 (shut_bool Tryz.underlying4 true)
 ·exact trodAll_mk1 (shut_string Tryz.underlying9 hs0)
theorem treeParses_holds:Rows.TreeParsesSaid:=
 OpenClaim.holds_of_wide 3 Tryz.f3 rfl rfl rfl rfl rfl rfl rfl ⟨rfl,rfl,rfl,rfl,rfl⟩ rfl rfl rfl rfl rfl (by kernel_rfl) Tryz.func3 (by kernel_rfl)
  (of_decide_eq_true (by kernel_rfl)) (by unfold Func.isWrapper;first|(rw[if_pos (by decide +kernel)];kernel_rfl)|(rw[if_neg (by decide +kernel)];exact ⟨rfl,rfl⟩))
  (fun os started H enc _=>treeParses_lifted os started H enc)
theorem treeParses_card:Rows.TreeParsesCardSaid:=
 Claim7.holds_tied_plain_at .later [] _ true (true,"0719167528076022be6cdb3b6f71d26789b885e9e848934a7e2a2f84734980c1") true
  treeParses_holds (fun _ h=>by cases h) (by kernel_rfl) (fun _ h=>by cases h) treeParses_row_tie rfl ⟨rfl,rfl⟩ (by kernel_rfl) rfl
  (fun f fn hf hfn=>by
   obtain rfl:f=3:=Option.some.inj ((show Tryz.prog.funcNamed "stockade/stockadelaw06.TreeParses"=some 3 by kernel_rfl).symm.trans hf) |>.symm
   obtain rfl:fn=Tryz.f3:=(Option.some.inj (Tryz.func3.symm.trans hfn)).symm
   exact ⟨by kernel_rfl,fun j t ht=>by
    rw[Tryz.params3] at ht
    have hm:t∈[9]:=by simpa using Array.mem_of_getElem? ht
    have hall:([9].all fun u=>!Tryz.prog.wantsStandIn u)=true:=by kernel_rfl
    exact (show Tryz.prog.wantsStandIn t=false by simpa using List.all_eq_true.1 hall t hm)⟩)
  (by kernel_rfl)
#print axioms treeParses_card
end Go.Proofs.YtafbchppfbonpaaGreatDoor
