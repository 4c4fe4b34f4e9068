/- strings.Builder's copyCheck and String at a show.page: what the library's own texts do. -/
import Derived.Test.YteaoocedcjijdaaGreatDoorSEPb0
import Derived.Test.YteaoocedcjijdaaGreatDoorPrimsOk
import Derived.Test.YteaoocedcjijdaaGreatDoorEvB
import Derived.Test.YteaoocedcjijdaaGreatDoorChecked
import Derived.Lib.Builder
import Derived.Lib.UnsafeStr
import Derived.Lib.Strings
import Derived.Lib.Walk
import Derived.WalkKit
import Derived.Laws.Externs
import Derived.Shelf.RegionOpenPlain
set_option linter.all false
set_option linter.unusedVariables false
set_option linter.unusedSimpArgs false
namespace Go.Proofs.YteaoocedcjijdaaGreatDoor
open Go.Shelf Go.RowKit Go.Extern
set_option maxRecDepth 100000
set_option maxHeartbeats 4000000
theorem hmixB:Tryz.prog.follows .mixedOrders=true:=by kernel_rfl
theorem Tryz.sizeB:(Tryz.prog.info? 109).map (·.size)=some 2:=by kernel_rfl
theorem Tryz.liesB:liesAt Tryz.prog Tryz.prog.depth 111 (3 / Tryz.prog.cellsOf 111) 0 109 1=true:=by kernel_rfl
theorem Tryz.cellsU:Tryz.prog.cellsOf 5=1:=by kernel_rfl
theorem cc_used (b:Nat) (w:World) (h0:w.cell? ⟨b,0,none⟩=some (.pointer (some ⟨b,0,none⟩))) :
  Calls Tryz.prog 170 #[.pointer (some ⟨b,0,none⟩)] w fun e w'=>e=.returned (.tuple #[])∧w'=w:=by
 obtain ⟨j,hj,_⟩:=Option.map_eq_some_iff.1 Tryz.sizeB
 go_enter Tryz.func170,Tryz.ntmps170
 go_wp2
 rw[Lib.run_neq_ptr_same w _ Tryz.underlying107 hj]
 go_wp2
 go_end0
 exact ⟨rfl,rfl⟩
theorem cc_fresh (b:Nat) (w:World) (h0:w.cell? ⟨b,0,none⟩=some (.pointer none)) (hsh:w.shape? b=some (111,3)) (hfz:w.frozen? ⟨b,0,none⟩=false) :
  Calls Tryz.prog 170 #[.pointer (some ⟨b,0,none⟩)] w fun e w'=>e=.returned (.tuple #[])∧w'=w.setCell ⟨b,0,none⟩ (.pointer (some ⟨b,0,none⟩)):=by
 obtain ⟨j,hj,hjs⟩:=Option.map_eq_some_iff.1 Tryz.sizeB
 have he:=@run_callFunc_extern Tryz.prog 185 _ Extern.AbiNoEscape.same Tryz.func185 (by kernel_rfl) (by kernel_rfl) (by kernel_rfl) (by kernel_rfl)
 go_enter Tryz.func170,Tryz.ntmps170
 go_wp2
 rw[Lib.run_to_unsafe w ⟨b,0,none⟩ Tryz.underlying107 Tryz.underlying212 hj (by rw[hjs];decide) hsh (by show 0<3;omega)]
 simp only[Result.andThen]
 rw[Oper.upon_value]
 go_wp2
 rw[Lib.run_noEscape]
 simp only[Result.andThen]
 rw[Oper.upon_value]
 go_wp2
 rw[Lib.run_from_unsafe w ⟨b,0,none⟩ Tryz.underlying212 Tryz.underlying107 hj hsh Tryz.liesB]
 simp only[Result.andThen]
 rw[Oper.upon_value]
 go_wp2
 go_end0
 exact ⟨rfl,rfl⟩
theorem st_nil (b:Nat) (w:World) (c1:w.cell? ⟨b,1,none⟩=some (.slice none 0 0)) :
  Calls Tryz.prog 65 #[.pointer (some ⟨b,0,none⟩)] w fun e w'=>e=.returned (.string ⟨#[]⟩)∧w'=w.drew:=by
 have hUS:∀W:World,(Builtin.unsafeString_ #[158,3] 9 #[.pointer none,.int .i64 0]).run Tryz.prog W=.ok (.string .empty) W:=fun W=>Lib.run_unsafeString_none W _ _ _ none
 have c1':w.drew.cell? ⟨b,1,none⟩=some (.slice none 0 0):=c1
 have hSD:∀W:World,(Builtin.unsafeSliceData_ #[45] 158 #[.slice none 0 0]).run Tryz.prog W=.ok (.pointer none) W:=fun _=>rfl
 have mixed:=hmixB
 go_enter Tryz.func65,Tryz.ntmps65
 go_wp2
 go_region_o
 all_goals (go_wp2;go_ret;exact ⟨rfl,rfl⟩)
theorem st_row (b g n cap:Nat) (l:List UInt8) (w:World) (h0:l≠[]) (c1:w.cell? ⟨b,1,none⟩=some (.slice (some ⟨g,0,none⟩) l.length cap)) (hsh:w.shape? g=some (5,n)) (hn:l.length≤n) (hc:l.length≤cap) (h63:l.length≤9223372036854775807)
  (hcell:∀j x,l[j]?=some x→w.cell? ((⟨g,0,none⟩:Addr).add j)=some (.int .u8 x.toNat)) :
  Calls Tryz.prog 65 #[.pointer (some ⟨b,0,none⟩)] w fun e w'=>e=.returned (.string ⟨l.toArray⟩)∧w'=w.drew.freeze ⟨g,0,none⟩ l.length:=by
 have hl0:l.length≠0:=by simpa using h0
 have c1':w.drew.cell? ⟨b,1,none⟩=some (.slice (some ⟨g,0,none⟩) l.length cap):=c1
 have hSD:(Builtin.unsafeSliceData_ #[45] 158 #[.slice (some ⟨g,0,none⟩) l.length cap]).run Tryz.prog w.drew=.ok (.pointer (some ⟨g,0,none⟩)) w.drew:=
  Lib.run_unsafeSliceData_row _ _ _ _ _ _ (by omega)
 have hUS:(Builtin.unsafeString_ #[158,3] 9 #[.pointer (some ⟨g,0,none⟩),.int .i64 l.length]).run Tryz.prog w.drew=.ok (.string ⟨l.toArray⟩) (w.drew.freeze ⟨g,0,none⟩ l.length):=
  Lib.run_unsafeString_row w.drew 158 3 9 5 Tryz.underlying158 Tryz.cellsU g n hsh l h0 hn h63 hcell
 have mixed:=hmixB
 go_enter Tryz.func65,Tryz.ntmps65
 go_wp2
 go_region_o
 all_goals (go_wp2;go_ret;exact ⟨rfl,rfl⟩)
end Go.Proofs.YteaoocedcjijdaaGreatDoor
