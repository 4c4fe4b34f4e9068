/- Trees as arguments. -/
import Derived.Test.YteaoocedcjijdaaGreatDoorEvC
import Derived.Test.YteaoocedcjijdaaGreatDoorSECl0t
import Derived.Test.YteaoocedcjijdaaGreatDoorSEK1
import Derived.Test.YteaoocedcjijdaaGreatDoorPuA
set_option linter.all false
set_option linter.unusedVariables false
set_option linter.unusedSimpArgs false
namespace Go.Ev
open Go Go.RowKit Go.Proofs
set_option maxRecDepth 100000
section
variable {H:Type} {h:AHeap}
theorem rows_of:∀(ds:List (DataW H)) (cs:List AV),cs.length=ds.length*9→(∀(i:Nat) (d:DataW H),ds[i]?=some d→∃nd kv,(cs.drop (i*9)).take 9=ndC nd kv∧KidsR 0 h nd.kids kv∧nd.rngB=true)→∃ns,ns.length=ds.length∧RowsR 0 h ns cs∧rngsB ns=true
 | [],cs,hl,_=>⟨[],rfl,(by
  have:cs=[]:=List.length_eq_zero_iff.1 (by simpa using hl)
  subst this;exact .nil),rfl⟩
 | d::ds,cs,hl,hg=>by
  obtain ⟨nd,kv,h1,h2,r2⟩:=hg 0 d rfl
  rw[List.length_cons,Nat.succ_mul] at hl
  obtain ⟨ns,h3,h4,r4⟩:=rows_of ds (cs.drop 9) (by rw[List.length_drop];omega) (fun i d' hd=>by
   obtain ⟨nd',kv',g1,g2⟩:=hg (i+1) d' (by simpa using hd)
   refine ⟨nd',kv',?_,g2⟩
   rw[List.drop_drop,show 9+i*9=(i+1)*9 by omega]
   exact g1)
  refine ⟨nd::ns,by simp [h3],?_,by simp [rngsB,r2,r4]⟩
  have e:cs=ndC nd kv++cs.drop 9:=by
   rw[Nat.zero_mul,List.drop_zero] at h1
   rw[←h1,List.take_append_drop]
  rw[e]
  exact .cons h2 h4
theorem int_rng {n:Int} (w:(Lit.int .i64 n).wf=true):n≤9223372036854775807:=by
 simp only[Lit.wf,Bool.and_eq_true,decide_eq_true_eq] at w
 exact w.2
theorem u64_rng {n:Int} (w:(Lit.int .u64 n).wf=true):0≤n∧n≤18446744073709551615:=by
 simp only[Lit.wf,Bool.and_eq_true,decide_eq_true_eq] at w
 exact w
theorem nCells:Tryz.prog.cellsOf 25=9:=by kernel_rfl
theorem nBytes:0<Tryz.prog.bytesOf 25:=of_decide_eq_true (by kernel_rfl)
theorem nInt:Tryz.prog.cellsOf 3=1:=by kernel_rfl
theorem nU64:Tryz.prog.cellsOf 22=1:=by kernel_rfl
theorem nStr:Tryz.prog.cellsOf 9=1:=by kernel_rfl
theorem nKids:Tryz.prog.cellsOf 23=1:=by kernel_rfl
theorem node_of {t:TypeId} {d:DataW H} {cs:List AV} (r:DatR Tryz.prog h t d cs):(d.weights Tryz.prog t).all (·≤reachBytes)=true→(t=25→∃nd kv,cs=ndC nd kv∧KidsR 0 h nd.kids kv∧nd.rngB=true)∧(t=23→∃ns kv,cs=[kv]∧KidsR 0 h ns kv∧rngsB ns=true):=by
 induction r with
 | int h1 h2=>exact fun _=>⟨(by rintro rfl;rw[Tryz.underlying25] at h1;cases h1),(by rintro rfl;rw[Tryz.underlying23] at h1;cases h1)⟩
 | str h1 h2=>exact fun _=>⟨(by rintro rfl;rw[Tryz.underlying25] at h1;cases h1),(by rintro rfl;rw[Tryz.underlying23] at h1;cases h1)⟩
 | bool h1=>exact fun _=>⟨(by rintro rfl;rw[Tryz.underlying25] at h1;cases h1),(by rintro rfl;rw[Tryz.underlying23] at h1;cases h1)⟩
 | nil h1=>exact fun _=>⟨(by rintro rfl;rw[Tryz.underlying25] at h1;cases h1),fun _=>⟨[],_,rfl,.nil,rfl⟩⟩
 | emp h1=>exact fun _=>⟨(by rintro rfl;rw[Tryz.underlying25] at h1;cases h1),fun _=>⟨[],_,rfl,.emp,rfl⟩⟩
 | @slice t e b cap ds rest cs h1 h2 h3 h4 h5 h6 h7 ih=>
  intro hw
  refine ⟨(by rintro rfl;rw[Tryz.underlying25] at h1;cases h1),?_⟩
  rintro rfl
  rw[Tryz.underlying23] at h1
  cases h1
  rw[DataW.weights,Tryz.underlying23] at hw
  simp only[List.all_cons,Bool.and_eq_true,List.all_append,decide_eq_true_eq] at hw
  obtain ⟨hw1,hw2,_⟩:=hw
  rw[nCells] at h5 h6
  obtain ⟨ns,g1,g2,rg⟩:=rows_of (h:=h) ds cs h6 (fun i d hd=>by
   have:=(ih i d hd (weightsAll_get hd hw2)).1 rfl
   rwa[nCells] at this)
  refine ⟨ns,_,rfl,?_,rg⟩
  rw[←g1]
  refine KidsS.own ?_ ?_ (Nat.zero_le _) h4 h5 g2
  ·intro q
   rw[q] at g1
   exact h2 (List.length_eq_zero_iff.1 g1.symm)
  ·have hb:=nBytes
   have:ds.length≤(ds.length+rest.length)*Tryz.prog.bytesOf 25:=Nat.le_trans (Nat.le_add_right _ _) (Nat.le_mul_of_pos_right _ hb)
   have hr:reachBytes<2^61:=by decide
   omega
 | @agg t fs ds cs h1 h2 h3 h4 ih=>
  intro hw
  refine ⟨?_,(by rintro rfl;rw[Tryz.underlying23] at h1;cases h1)⟩
  rintro rfl
  rw[Tryz.underlying25] at h1
  cases h1
  rw[nCells] at h2
  rw[DataW.weights,Tryz.underlying25] at hw
  match ds,h3 with
  | [d0,d1,d2,d3,d4,d5,d6,d7,d8],_=>
   match cs,h2 with
   | [c0,c1,c2,c3,c4,c5,c6,c7,c8],_=>
    obtain ⟨n0,e0,_⟩:=(h4 0 _ d0 rfl rfl).int_inv Tryz.underlying3
    obtain ⟨n1,e1,_⟩:=(h4 1 _ d1 rfl rfl).int_inv Tryz.underlying3
    obtain ⟨s2,e2,_⟩:=(h4 2 _ d2 rfl rfl).str_inv Tryz.underlying9
    obtain ⟨n3,e3,_⟩:=(h4 3 _ d3 rfl rfl).int_inv Tryz.underlying3
    obtain ⟨n4,e4,w4⟩:=(h4 4 _ d4 rfl rfl).int_inv Tryz.underlying3
    obtain ⟨n5,e5,_⟩:=(h4 5 _ d5 rfl rfl).int_inv Tryz.underlying3
    obtain ⟨n6,e6,_⟩:=(h4 6 _ d6 rfl rfl).int_inv Tryz.underlying3
    obtain ⟨n7,e7,w7⟩:=(h4 7 _ d7 rfl rfl).int_inv Tryz.underlying22
    obtain ⟨ns,kv,e8,hk,hrg⟩:=(ih 8 _ d8 rfl rfl (weightsEach_get (i:=8) rfl rfl hw)).2 rfl
    replace e0:List.take (Tryz.prog.cellsOf 3) (List.drop 0 [c0,c1,c2,c3,c4,c5,c6,c7,c8])=[.int .i64 n0]:=e0
    replace e1:List.take (Tryz.prog.cellsOf 3) (List.drop 1 [c0,c1,c2,c3,c4,c5,c6,c7,c8])=[.int .i64 n1]:=e1
    replace e2:List.take (Tryz.prog.cellsOf 9) (List.drop 2 [c0,c1,c2,c3,c4,c5,c6,c7,c8])=[.str s2]:=e2
    replace e3:List.take (Tryz.prog.cellsOf 3) (List.drop 3 [c0,c1,c2,c3,c4,c5,c6,c7,c8])=[.int .i64 n3]:=e3
    replace e4:List.take (Tryz.prog.cellsOf 3) (List.drop 4 [c0,c1,c2,c3,c4,c5,c6,c7,c8])=[.int .i64 n4]:=e4
    replace e5:List.take (Tryz.prog.cellsOf 3) (List.drop 5 [c0,c1,c2,c3,c4,c5,c6,c7,c8])=[.int .i64 n5]:=e5
    replace e6:List.take (Tryz.prog.cellsOf 3) (List.drop 6 [c0,c1,c2,c3,c4,c5,c6,c7,c8])=[.int .i64 n6]:=e6
    replace e7:List.take (Tryz.prog.cellsOf 22) (List.drop 7 [c0,c1,c2,c3,c4,c5,c6,c7,c8])=[.int .u64 n7]:=e7
    replace e8:List.take (Tryz.prog.cellsOf 23) (List.drop 8 [c0,c1,c2,c3,c4,c5,c6,c7,c8])=[kv]:=e8
    simp only[nInt,nU64,nStr,nKids,List.drop_zero,List.drop_succ_cons,List.take_succ_cons,List.take_zero,List.cons.injEq,and_true] at e0 e1 e2 e3 e4 e5 e6 e7 e8
    subst e0 e1 e2 e3 e4 e5 e6 e7 e8
    have b4:=int_rng w4
    have b7:=u64_rng w7
    refine ⟨.mk n0 n1 s2 n3 n4 n5 n6 n7 ns,_,rfl,hk,?_⟩
    rw[rngB_eq]
    simp only[inR,Bool.and_eq_true,decide_eq_true_eq]
    exact ⟨⟨⟨b4,b7.1⟩,b7.2⟩,hrg⟩
end
end Go.Ev
