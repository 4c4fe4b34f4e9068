/- ShowExprs: which trees are expressions in form, and their texts, of all trees: the row and its tied card. -/
import Derived.Test.YteaoocedcjijdaaGreatDoorSECl0t
import Derived.Test.YteaoocedcjijdaaGreatDoorSEOpNr
import Derived.Test.YteaoocedcjijdaaGreatDoorSEKC
import Derived.Test.YteaoocedcjijdaaGreatDoorSEK90
import Derived.Test.YteaoocedcjijdaaGreatDoorCards
import Derived.Test.YteaoocedcjijdaaGreatDoorTie
import Derived.SevenTiedAt
set_option linter.all false
set_option linter.unusedVariables false
set_option linter.unusedSimpArgs false
namespace Go.Proofs.YteaoocedcjijdaaGreatDoor
open Go Go.Ev Go.ChangeShapes Go.WideShapes Go.ChangeAt Go.RowKit Go.ChangeMaps
set_option maxRecDepth 100000
set_option maxHeartbeats 4000000
abbrev zNode:Value:=.agg #[.int .i64 0,.int .i64 0,.string ⟨#[]⟩,.int .i64 0,.int .i64 0,.int .i64 0,.int .i64 0,.int .u64 0,.slice none 0 0]
theorem showExprs_lifted (os:Os) (started:os.Started) (H:Type) (enc:TypeId×Value→H) :
  ReturnsInHanded {} Tryz.checked os 8 .any (fun w args=>(Rows.showExprsSpec.pre enc Tryz.prog Tryz.f8 [] false w args∧laidMetH Tryz.prog Rows.showExprsRow.laid w)∧sizedMet enc Tryz.prog Tryz.f8 (OpenSpec.ofChange Rows.showExprsSpec) false w args)
   (Rows.showExprsSpec.post enc Tryz.prog Tryz.f8 false true false false):=by
 refine returns_open (C:=Tryz.checked) (X:=fun w _=>laidMetH Tryz.prog Rows.showExprsRow.laid w) (fun _ _ _ hh h=>h.of_heap hh) dOwn started (by kernel_rfl) Tryz.func8 gPlain
  (ChangeSpec.witness_shaped (enc:=enc) (C:=Tryz.checked) (os:=os) (X:=fun w _=>laidMetH Tryz.prog Rows.showExprsRow.laid w) false (World.doorLaid Tryz.prog 400 os) #[zNode] 8 rfl (World.shaped_of_RefB (by kernel_rfl) (by kernel_rfl)) (by kernel_rfl) (by kernel_rfl) (by kernel_rfl) (door_met os _)) ?_
 intro W base args ds gs before hsz hval0 hW _ hwt hL _
 have hval:∀(j:Nat) t v,Tryz.f8.params[j]?=some t→args[j]?=some v→Value.okWide Tryz.prog W .any base t v:=hval0
 have hwt':(DataW.weightsEach Tryz.prog (Tryz.f8.params.toList++Rows.showExprsSpec.plain.varTypes Tryz.prog) (ds++gs)).all (·≤reachBytes)=true:=hwt
 have hW':=hW
 obtain ⟨p,q,hA0,hV,rfl,hfz,hnd⟩:=hW
 have hA:DataW.TrodAll enc Tryz.prog W 0 (fun _=>true) true Tryz.f8.params.toList args.toList ds p:=hA0
 rw[Tryz.params8] at hA hval hwt'
 obtain ⟨v0,d0,rfl,rfl,h0⟩:=trodAll_one hA
 obtain ⟨rfl,rfl⟩:=trodVars_none hV
 clear hA0 hval0 hwt
 have hL':laidMet Tryz.prog (gPairs.map (laidRow "*errors.errorString")) W:=by
  have h1:=hL
  rw[MakeChecks.laidMetH_plain _ _ _ (by kernel_rfl)] at h1
  exact laid_tail h1
 have hT:laidMet Tryz.prog Rows.showExprsRow.laid W:=by
  have h1:=hL
  rw[MakeChecks.laidMetH_plain _ _ _ (by kernel_rfl)] at h1
  exact h1
 obtain ⟨c,o,hs,hz0⟩:=sents hL'
 have hlt0:∀x∈p,x.block<W.heap.size:=fun x hx=>by obtain ⟨k,hk⟩:=h0;exact DataW.trod_lt k _ _ _ hk x hx
 obtain ⟨cs0,rfl,_⟩:=okWide_struct Tryz.underlying25 (hval 0 25 v0 rfl rfl)
 have hr:=rel0 (P:=Tryz.prog) (kn:=knG) (dt:=dtG) (T:=218) (K:=17) (txt:=txt) (m:=0) (xs:=fun _=>.dead) (xi:=fun _=>(0,0)) (c:=c) (o:=o) (W:=W) (by rw[gSize];decide) hsz hs (fun g hg hk=>(hz0 g hk).symm ▸ Nat.lt_of_lt_of_le (show 0<Tryz.prog.globals.size by rw[gSize];decide) hsz) (fun g vs _ _ hd=>tabs hT g vs hd) (fun j hj=>by omega) (fun j hj=>by omega)
 have hg:=iota0_glob (P:=Tryz.prog) (K:=17) (c:=c) (o:=o) (m:=0) (xi:=fun _=>(0,0))
 have hdead:infoOf (hp0 0 (fun _=>.dead)).get 18=.dead:=by
  simp [infoOf,hp0,heap0_get,gSize]
  rfl
 have hS:plainT Tryz.prog [25,23,3,22,9]=true:=by kernel_rfl
 have hqe:hp0 0 (fun _=>.dead)=hq:=by unfold hp0 hq;rw[gSize]
 have hgh:=gh_hq
 rw[←hqe] at hgh
 obtain ⟨k0,hk0⟩:=h0
 obtain ⟨ι1,H1,vs0,e1,r1,no1,v1,dr0⟩:=opens_plain hS k0 25 _ _ (by simp) hk0 _ _ hr noOwn0 hdead
 obtain ⟨a,kv,rfl,ka,rg⟩:=(node_of dr0 (weightsEach_get (i:=0) rfl rfl hwt')).1 rfl
 have hGH:GH H1:=(show Fr (hp0 0 (fun _=>.dead)).n _ H1 from ⟨e1.n,fun b hb _=>e1.old b hb⟩).gh hgh.n hgh
 have hLE:LowEq hq H1:=by
  rw[←hqe]
  refine ⟨e1.n,fun b x q=>.inr ?_⟩
  have hb:b<(hp0 0 (fun _=>.dead)).n:=by
   by_cases hb:b<(hp0 0 (fun _=>.dead)).n
   ·exact hb
   ·rw[hqe] at q hb
    have hn:hq.n=21+17:=rfl
    rw[hq_get,if_neg (by omega)] at q;cases q
  rw[e1.old b hb];exact q
 have walk:WF F 8 [.agg (ndC a kv)] H1 (fun r _=>r=.ret (.bool true)):=exprs_law ka rg hLE hGH
 have vv:VRL ι1 (infoOf H1.get) (wsz W) [.agg (ndC a kv)] #[Value.agg cs0].toList:=by
  simp only[VRL,VR]
  exact ⟨_,_,rfl,⟨_,rfl,v1⟩,rfl⟩
 refine (run1 fokF primsF hmix Tryz.func8 rfl (by kernel_rfl) r1 (e1.glob hg) no1 vv walk).mono ?_
 rintro e W' ⟨rfl,hb⟩
 refine ⟨_,rfl,_,_,_,[],p,[],hW',?_,?_,rfl,hb.frame _,fun h=>by cases h⟩
 ·exact trodAll_mk1 (shut_bool Tryz.underlying4 true)
 ·exact trodAll_mk1 (Below.trod (by kernel_rfl) (by kernel_rfl) (of_decide_eq_true (by kernel_rfl)) ⟨k0,hk0⟩ hb hlt0)
theorem showExprs_holds:Rows.ShowExprsSaid:=
 OpenClaim.holds_of_wide 8 Tryz.f8 rfl rfl rfl rfl rfl rfl rfl ⟨rfl,rfl,rfl,rfl,rfl⟩ rfl rfl rfl rfl rfl (by kernel_rfl) Tryz.func8 (by kernel_rfl)
  (of_decide_eq_true (by kernel_rfl)) (by unfold Func.isWrapper;first|(rw[if_pos (by decide +kernel)];kernel_rfl)|(rw[if_neg (by decide +kernel)];exact ⟨rfl,rfl⟩))
  (fun os started H enc _=>showExprs_lifted os started H enc)
theorem showExprs_card:Rows.ShowExprsCardSaid:=
 Claim7.holds_tied_plain_at .later [] _ true (true,"85452b5c00687bda5f8f476ec2bd734f7908f45cbbdd5b082db48429f3cd2c88") true
  showExprs_holds (fun _ h=>by cases h) (by kernel_rfl) (fun _ h=>by cases h) showExprs_row_tie rfl ⟨rfl,rfl⟩ (by kernel_rfl) rfl
  (fun f fn hf hfn=>by
   obtain rfl:f=8:=Option.some.inj ((show Tryz.prog.funcNamed "stockade/stockadelaw07.ShowExprs"=some 8 by kernel_rfl).symm.trans hf) |>.symm
   obtain rfl:fn=Tryz.f8:=(Option.some.inj (Tryz.func8.symm.trans hfn)).symm
   exact ⟨by kernel_rfl,fun j t ht=>by
    rw[Tryz.params8] at ht
    have hm:t∈[25]:=by simpa using Array.mem_of_getElem? ht
    have hall:([25].all fun u=>!Tryz.prog.wantsStandIn u)=true:=by kernel_rfl
    exact (show Tryz.prog.wantsStandIn t=false by simpa using List.all_eq_true.1 hall t hm)⟩)
  (by kernel_rfl)
#print axioms showExprs_card
end Go.Proofs.YteaoocedcjijdaaGreatDoor
