/- The seat's errors, as its initialisers lay them. -/
import Derived.Test.YteaoocedcjijdaaGreatDoorSEQC
import Derived.Test.YteaoocedcjijdaaGreatDoorSEPb0
import Derived.Test.YteaoocedcjijdaaGreatDoorRows
import Derived.LaidMore
import Derived.OpenShut
import Derived.Stop.Joined
import Derived.Lib.LaidTab
set_option linter.all false
set_option linter.unusedVariables false
set_option linter.unusedSimpArgs false
namespace Go.Ev
open Go Go.Proofs Go.Proofs.YteaoocedcjijdaaGreatDoor Go.ChangeShapes Go.WideShapes Go.ChangeAt Go.RowKit
set_option maxRecDepth 100000
theorem dOwn:ownKnob Tryz.prog.godebug=none:=by kernel_rfl
def gOrder:List Nat:=[2,3,4,5,6,7,8,1,0,9,10,11,12,13,14,15,16]
def gNames:List String:=["stockade/api.ErrRange","stockade/api.ErrText","stockade/api.ErrDepth","stockade/api.ErrName","stockade/api.ErrType","stockade/api.ErrLarge","stockade/api.ErrFull","stockade/api.ErrNone","stockade/api.ErrCode","stockade/api.ErrState","stockade/api.ErrFrame","stockade/api.ErrMac","stockade/api.ErrReplay","stockade/api.ErrArena","stockade/api.ErrClock","stockade/api.ErrQuota","stockade/api.ErrTenant"]
def gPairs:List (String×List UInt8):=gNames.zip (gOrder.map txt)
theorem gNamed:gPairs.map (fun x=>Tryz.prog.globalNamed x.1)=gOrder.map some:=by kernel_rfl
theorem gTypes:∀g∈gOrder,(Tryz.prog.globals[g]?).map (·.type)=some 35:=by
 have h:(gOrder.all fun g=>(Tryz.prog.globals[g]?).map (·.type)==some 35)=true:=by kernel_rfl
 intro g hg
 simpa using List.all_eq_true.1 h g hg
theorem gStar: "*"++ "errors.errorString"= "*errors.errorString":=by decide
theorem gRow (u:TypeId) (h:Tryz.prog.typeName? 3 u=some "*errors.errorString"):u=218:=
 typeName_ptr_named (nm:= "errors.errorString") (by rw[gStar];kernel_rfl) (by kernel_rfl) (by decide) u (by rw[gStar];exact h)
theorem gSize:Tryz.prog.globals.size=21:=by kernel_rfl
theorem gPlain:Tryz.prog.globals.size<(begin Tryz.prog (fun _ _=>0) default).world.heap.size:=of_decide_eq_true (by kernel_rfl)
theorem gIdx:∀g:Nat,knG g=true→∃i:Nat,gOrder[i]?=some g∧(gPairs[i]?).map (fun x:String×List UInt8=>x.2)=some (txt g):=by
 intro g hg
 have h:(List.range 17).all (fun g=>!knG g||(List.range 17).any fun i=>gOrder[i]?==some g&&(gPairs[i]?).map (fun x:String×List UInt8=>x.2)==some (txt g))=true:=by decide +kernel
 have h1:=List.all_eq_true.1 h g (List.mem_range.2 (knG_lt hg))
 rw[hg,Bool.not_true,Bool.false_or] at h1
 obtain ⟨i,_,h2⟩:=List.any_eq_true.1 h1
 simp only[Bool.and_eq_true,beq_iff_eq] at h2
 exact ⟨i,h2⟩
theorem laid_tail {W:World}:laidMet Tryz.prog Rows.showExprsRow.laid W→laidMet Tryz.prog (gPairs.map (laidRow "*errors.errorString")) W:=fun h=>h.tail.tail.tail
theorem sents {W:World} (h:laidMet Tryz.prog (gPairs.map (laidRow "*errors.errorString")) W):∃c o:Nat→Nat,(∀g,g<17→knG g=true→SentAt W 218 g (txt g) (c g) (o g))∧∀g,knG g=false→c g=0:=by
 have key:∀g,∃co:Nat×Nat,(knG g=true→SentAt W 218 g (txt g) co.1 co.2)∧(knG g=false→co.1=0):=by
  intro g
  cases hg:knG g with
  | true=>
   obtain ⟨i,h1,h2⟩:=gIdx g hg
   obtain ⟨c,o,hs⟩:=laid_all Tryz.underlying35 gRow Tryz.underlying218 Tryz.underlying240 rfl rfl Tryz.underlying9 (by kernel_rfl) (by kernel_rfl) gPairs gOrder h gNamed gTypes i g (txt g) h1 h2
   exact ⟨(c,o),fun _=>hs,fun q=>(by cases q)⟩
  | false=>exact ⟨(0,0),(fun q=>by cases q),fun _=>rfl⟩
 exact ⟨fun g=>(Classical.choose (key g)).1,fun g=>(Classical.choose (key g)).2,fun g _ hg=>(Classical.choose_spec (key g)).1 hg,fun g hg=>(Classical.choose_spec (key g)).2 hg⟩
noncomputable abbrev hp0 (m:Nat) (xs:Nat→AObj):AHeap:=heap0 218 Tryz.prog.globals.size 17 knG dtG txt m xs
theorem tab_at {W:World} {name:String} {k:IntKind} {zs:List Int} {g:Nat} (h:Lib.TabIs Tryz.prog W name k zs) (hg:Tryz.prog.globalNamed name=some g):∃cs Tc f,W.heap[g]?=some (.cells cs Tc f)∧cs.size=(zs.map (AV.int k)).length∧∀(i:Nat) (x:AV),(zs.map (AV.int k))[i]?=some x→∃v,cs[i]?=some v∧∀ι I sz,VR ι I sz x v:=by
 unfold Lib.TabIs World.var? at h
 rw[hg,Option.bind_some] at h
 cases q:W.heap[g]? with
 | none=>rw[q] at h;cases h
 | some b=>
  cases b with
  | cells cs Tc f=>
   rw[q] at h
   simp only[Option.some.injEq] at h
   subst h
   refine ⟨_,_,_,rfl,by simp,fun i x hx=>?_⟩
   rw[List.getElem?_map] at hx
   obtain ⟨z,hz,rfl⟩:=Option.map_eq_some_iff.1 hx
   exact ⟨.int k z,by simp [hz],fun _ _ _=>by simp only[VR]⟩
  | _=>rw[q] at h;cases h
theorem tabs {W:World} (h:laidMet Tryz.prog Rows.showExprsRow.laid W):∀g vs,dtG g=some vs→∃cs Tc f,W.heap[g]?=some (.cells cs Tc f)∧cs.size=vs.length∧∀(i:Nat) (x:AV),vs[i]?=some x→∃v,cs[i]?=some v∧∀ι I sz,VR ι I sz x v:=by
 have e:Rows.showExprsRow.laid=("math/bits.deBruijn32tab",Rows.laid_math_bits_deBruijn32tab)::("math/bits.deBruijn64tab",Lib.tabData .u8 db64L)::("internal/strconv.uint64pow10",Lib.tabData .u64 pow10L)::Rows.showExprsRow.laid.drop 3:=by kernel_rfl
 rw[e] at h
 have t1:=tab_at (g:=20) (Lib.tabIs_of_head (g:=20) (t:=217) (e:=5) (n:=64) (by kernel_rfl) (by kernel_rfl) Tryz.underlying217 Tryz.underlying5 (by kernel_rfl) (by kernel_rfl) h.tail) (by kernel_rfl)
 have t2:=tab_at (g:=17) (Lib.tabIs_of_head (g:=17) (t:=209) (e:=22) (n:=20) (by kernel_rfl) (by kernel_rfl) Tryz.underlying209 Tryz.underlying22 (by kernel_rfl) (by kernel_rfl) h.tail.tail) (by kernel_rfl)
 intro g vs hd
 unfold dtG at hd
 by_cases e1:g=17
 ·subst e1
  rw[Nat.beq_refl] at hd
  cases hd
  exact t2
 ·rw[beqF e1] at hd
  by_cases e2:g=20
  ·subst e2
   rw[Nat.beq_refl] at hd
   cases hd
   exact t1
  ·rw[beqF e2] at hd;cases hd
theorem door_met (os:Os) (args:Array Value):laidMetH Tryz.prog Rows.showExprsRow.laid ((World.doorLaid Tryz.prog 400 os).forCall (fun _ _=>0) ⟨#[],args,[]⟩).memory:=
 laidMetH_of_parts3 (fuel:=8) (laidMet_of_run' 8 (by kernel_rfl) (by kernel_rfl)) (by kernel_rfl) (by kernel_rfl)
end Go.Ev
