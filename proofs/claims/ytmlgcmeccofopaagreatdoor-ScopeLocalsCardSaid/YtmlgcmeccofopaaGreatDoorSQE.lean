/- They stand for the table's. -/
import Derived.Test.YtmlgcmeccofopaaGreatDoorSQT
import Derived.Test.YtmlgcmeccofopaaGreatDoorSQH
import Derived.KernelRfl
import Derived.Test.YtmlgcmeccofopaaGreatDoorEvC
set_option linter.all false
set_option linter.unusedVariables false
set_option linter.unusedSimpArgs false
namespace Go.Ev
open Go
set_option maxRecDepth 100000
theorem e5 : feFun 2 m5 = h5 := by kernel_rfl
theorem e12 : feFun 0 m12 = h12 := by kernel_rfl
theorem e16 : feFun 1 m16 = h16 := by kernel_rfl
theorem e18 : feFun 1 m18 = h18 := by kernel_rfl
theorem e20 : feFun 1 m20 = h20 := by kernel_rfl
theorem e26 : feFun 1 m26 = h26 := by kernel_rfl
theorem e35 : feFun 1 m35 = h35 := by kernel_rfl
theorem e36 : feFun 1 m36 = h36 := by kernel_rfl
theorem e37 : feFun 2 m37 = h37 := by kernel_rfl
theorem e38 : feFun 3 m38 = h38 := by kernel_rfl
theorem e39 : feFun 2 m39 = h39 := by kernel_rfl
theorem e40 : feFun 3 m40 = h40 := by kernel_rfl
theorem e47 : feFun 2 m47 = h47 := by kernel_rfl
theorem e48 : feFun 1 m48 = h48 := by kernel_rfl
theorem e49 : feFun 1 m49 = h49 := by kernel_rfl
theorem e50 : feFun 1 m50 = h50 := by kernel_rfl
theorem e54 : feFun 1 m54 = h54 := by kernel_rfl
theorem e55 : feFun 2 m55 = h55 := by kernel_rfl
theorem e56 : feFun 2 m56 = h56 := by kernel_rfl
theorem e68 : feFun 2 m68 = h68 := by kernel_rfl
theorem e71 : feFun 1 m71 = h71 := by kernel_rfl
theorem e72 : feDef 1 m72 = d72 := by kernel_rfl
theorem e73 : feFun 2 m73 = h73 := by kernel_rfl
theorem e74 : feFun 3 m74 = h74 := by kernel_rfl
theorem e75 : feFun 2 m75 = h75 := by kernel_rfl
theorem e81 : feFun 1 m81 = h81 := by kernel_rfl
theorem e82 : feDef 2 m82 = d82 := by kernel_rfl
theorem e83 : feFun 1 m83 = h83 := by kernel_rfl
theorem e84 : feFun 2 m84 = h84 := by kernel_rfl
theorem e85 : feFun 2 m85 = h85 := by kernel_rfl
theorem e86 : feFun 1 m86 = h86 := by kernel_rfl
theorem e87 : feFun 1 m87 = h87 := by kernel_rfl
theorem e88 : feFun 2 m88 = h88 := by kernel_rfl
theorem e89 : feFun 1 m89 = h89 := by kernel_rfl
theorem e90 : feFun 2 m90 = h90 := by kernel_rfl
theorem e96 : feFun 1 m96 = h96 := by kernel_rfl
theorem e97 : feDef 1 m97 = d97 := by kernel_rfl
theorem e98 : feFun 2 m98 = h98 := by kernel_rfl
theorem e99 : feFun 3 m99 = h99 := by kernel_rfl
theorem e100 : feFun 2 m100 = h100 := by kernel_rfl
theorem e108 : feFun 2 m108 = h108 := by kernel_rfl
theorem e109 : feFun 1 m109 = h109 := by kernel_rfl
theorem e114 : feFun 1 m114 = h114 := by kernel_rfl
theorem e115 : feFun 2 m115 = h115 := by kernel_rfl
theorem e116 : feFun 1 m116 = h116 := by kernel_rfl
theorem e117 : feFun 1 m117 = h117 := by kernel_rfl
theorem e118 : feFun 2 m118 = h118 := by kernel_rfl
theorem e119 : feFun 3 m119 = h119 := by kernel_rfl
theorem e120 : feFun 2 m120 = h120 := by kernel_rfl
theorem e121 : feFun 2 m121 = h121 := by kernel_rfl
theorem e122 : feFun 1 m122 = h122 := by kernel_rfl
theorem e123 : feFun 4 m123 = h123 := by kernel_rfl
theorem e124 : feDef 2 m124 = d124 := by kernel_rfl
theorem e125 : feFun 1 m125 = h125 := by kernel_rfl
theorem e126 : feFun 3 m126 = h126 := by kernel_rfl
theorem e127 : feFun 1 m127 = h127 := by kernel_rfl
theorem e128 : feFun 2 m128 = h128 := by kernel_rfl
theorem e129 : feFun 2 m129 = h129 := by kernel_rfl
theorem e130 : feFun 2 m130 = h130 := by kernel_rfl
theorem e131 : feFun 2 m131 = h131 := by kernel_rfl
theorem e132 : feFun 1 m132 = h132 := by kernel_rfl
theorem e133 : feFun 2 m133 = h133 := by kernel_rfl
theorem e136 : feFun 4 m136 = h136 := by kernel_rfl
theorem e137 : feFun 1 m137 = h137 := by kernel_rfl
theorem e138 : feFun 2 m138 = h138 := by kernel_rfl
theorem e139 : feFun 2 m139 = h139 := by kernel_rfl
theorem e148 : feFun 2 m148 = h148 := by kernel_rfl
theorem e150 : feFun 2 m150 = h150 := by kernel_rfl
theorem e151 : feFun 2 m151 = h151 := by kernel_rfl
theorem e152 : feFun 3 m152 = h152 := by kernel_rfl
theorem e153 : feFun 2 m153 = h153 := by kernel_rfl
theorem e154 : feFun 2 m154 = h154 := by kernel_rfl
theorem e155 : feFun 2 m155 = h155 := by kernel_rfl
theorem e156 : feFun 2 m156 = h156 := by kernel_rfl
theorem e157 : feFun 2 m157 = h157 := by kernel_rfl
theorem e158 : feFun 1 m158 = h158 := by kernel_rfl
theorem e159 : feFun 1 m159 = h159 := by kernel_rfl
theorem e160 : feFun 2 m160 = h160 := by kernel_rfl
theorem e161 : feFun 1 m161 = h161 := by kernel_rfl
theorem e162 : feFun 1 m162 = h162 := by kernel_rfl
theorem e163 : feFun 1 m163 = h163 := by kernel_rfl
theorem e164 : feFun 1 m164 = h164 := by kernel_rfl
theorem e165 : feFun 1 m165 = h165 := by kernel_rfl
theorem e166 : feFun 1 m166 = h166 := by kernel_rfl
theorem e167 : feFun 1 m167 = h167 := by kernel_rfl
theorem e170 : feFun 1 m170 = h170 := by kernel_rfl
theorem e171 : feFun 2 m171 = h171 := by kernel_rfl
theorem e180 : feFun 2 m180 = h180 := by kernel_rfl
theorem e181 : feFun 3 m181 = h181 := by kernel_rfl
theorem e182 : feFun 1 m182 = h182 := by kernel_rfl
theorem e183 : feFun 1 m183 = h183 := by kernel_rfl
theorem e184 : feFun 1 m184 = h184 := by kernel_rfl
theorem e185 : feFun 2 m185 = h185 := by kernel_rfl
theorem e186 : feFun 1 m186 = h186 := by kernel_rfl
theorem e187 : feFun 1 m187 = h187 := by kernel_rfl
theorem e188 : feFun 3 m188 = h188 := by kernel_rfl
theorem e189 : feFun 1 m189 = h189 := by kernel_rfl
theorem e190 : feFun 2 m190 = h190 := by kernel_rfl
theorem e198 : feFun 2 m198 = h198 := by kernel_rfl
theorem e199 : feFun 1 m199 = h199 := by kernel_rfl
theorem e200 : feFun 1 m200 = h200 := by kernel_rfl
theorem e204 : feFun 1 m204 = h204 := by kernel_rfl
theorem e205 : feFun 1 m205 = h205 := by kernel_rfl
noncomputable def ftbl : Tr FEntry := (.node (.node (.node (.node (.node (.node (.node (.node .nil (some (.fn h127)) .nil) none .nil) none (.node (.node .nil (some (.fn h159)) .nil) none .nil)) none (.node .nil (some (.fn h47)) .nil)) none (.node (.node (.node .nil (some (.fn h71)) (.node .nil (some (.fn h199)) .nil)) (some (.fn h39)) (.node (.node .nil (some (.fn h167)) .nil) none .nil)) none (.node (.node (.node .nil (some (.fn h151)) .nil) (some (.fn h87)) .nil) (some (.fn h55)) (.node (.node .nil (some (.fn h183)) .nil) (some (.fn h119)) .nil)))) none (.node (.node (.node (.node (.node .nil (some (.fn h131)) .nil) none .nil) (some (.fn h35)) (.node (.node .nil (some (.fn h163)) .nil) (some (.fn h99)) .nil)) none (.node (.node .nil (some (.fn h83)) .nil) none (.node .nil (some (.fn h115)) .nil))) none (.node (.node (.node (.node .nil (some (.fn h139)) .nil) (some (.fn h75)) (.node .nil (some (.fn (fePrim pIdx))) .nil)) none (.node (.node .nil (some (.fn h171)) .nil) none .nil)) none (.node (.node (.node .nil (some (.fn h155)) .nil) none .nil) none (.node (.node .nil (some (.fn h187)) .nil) (some (.fn h123)) .nil))))) none (.node (.node (.node (.node (.node (.node .nil (some (.fn h129)) .nil) none .nil) none (.node (.node .nil (some (.fn h161)) .nil) (some (.df d97)) .nil)) none (.node (.node .nil (some (.fn h81)) .nil) (some (.fn h49)) .nil)) none (.node (.node (.node (.node .nil (some (.fn h137)) .nil) (some (.fn h73)) .nil) none .nil) none (.node (.node (.node .nil (some (.fn h153)) .nil) (some (.fn h89)) .nil) none (.node (.node .nil (some (.fn h185)) .nil) (some (.fn h121)) .nil)))) (some (.fn h5)) (.node (.node (.node (.node (.node .nil (some (.fn h133)) .nil) none .nil) (some (.fn h37)) (.node (.node .nil (some (.fn h165)) .nil) none .nil)) none (.node (.node .nil (some (.fn h85)) .nil) none (.node (.node .nil (some (.fn h181)) .nil) (some (.fn h117)) .nil))) none (.node (.node (.node .nil none (.node .nil (some (.fn h205)) .nil)) none (.node .nil (some (.fn h109)) .nil)) none (.node (.node (.node .nil (some (.fn h157)) .nil) none .nil) none (.node (.node .nil (some (.fn h189)) .nil) (some (.fn h125)) .nil)))))) none (.node (.node (.node (.node (.node (.node (.node .nil (some (.fn h128)) .nil) none .nil) none (.node (.node .nil (some (.fn h160)) .nil) (some (.fn h96)) .nil)) (some (.fn h16)) (.node .nil (some (.fn h48)) .nil)) none (.node (.node (.node (.node .nil (some (.fn h136)) .nil) (some (.df d72)) (.node .nil (some (.fn h200)) .nil)) (some (.fn h40)) .nil) none (.node (.node (.node .nil (some (.fn h152)) .nil) (some (.fn h88)) .nil) (some (.fn h56)) (.node (.node .nil (some (.fn h184)) .nil) (some (.fn h120)) .nil)))) none (.node (.node (.node (.node (.node .nil (some (.fn h132)) .nil) (some (.fn h68)) .nil) (some (.fn h36)) (.node (.node .nil (some (.fn h164)) .nil) (some (.fn h100)) .nil)) (some (.fn h20)) (.node (.node (.node .nil (some (.fn h148)) .nil) (some (.fn h84)) .nil) none (.node (.node .nil (some (.fn h180)) .nil) (some (.fn h116)) .nil))) none (.node (.node (.node .nil none (.node .nil (some (.fn h204)) .nil)) (some (.fn (fePrim pIs))) (.node .nil (some (.fn h108)) .nil)) none (.node (.node (.node .nil (some (.fn h156)) .nil) none .nil) none (.node (.node .nil (some (.fn h188)) .nil) (some (.df d124)) .nil))))) none (.node (.node (.node (.node (.node (.node .nil (some (.fn h130)) .nil) none .nil) none (.node (.node .nil (some (.fn h162)) .nil) (some (.fn h98)) .nil)) (some (.fn h18)) (.node (.node .nil (some (.df d82)) .nil) (some (.fn h50)) (.node .nil (some (.fn h114)) .nil))) none (.node (.node (.node (.node .nil (some (.fn h138)) .nil) (some (.fn h74)) .nil) none (.node (.node .nil (some (.fn h170)) .nil) none .nil)) (some (.fn h26)) (.node (.node (.node .nil (some (.fn h154)) .nil) (some (.fn h90)) .nil) none (.node (.node .nil (some (.fn h186)) .nil) (some (.fn h122)) .nil)))) none (.node (.node (.node (.node .nil none (.node .nil (some (.fn h198)) .nil)) (some (.fn h38)) (.node (.node .nil (some (.fn h166)) .nil) none .nil)) none (.node (.node (.node .nil (some (.fn h150)) .nil) (some (.fn h86)) .nil) (some (.fn h54)) (.node (.node .nil (some (.fn h182)) .nil) (some (.fn h118)) .nil))) none (.node .nil none (.node (.node (.node .nil (some (.fn h158)) .nil) none .nil) none (.node (.node .nil (some (.fn h190)) .nil) (some (.fn h126)) .nil)))))))
theorem EO {F : FT} {f : Nat} {x : FEntry} (h : EOk F f x) : ∀ y, some x = some y → EOk F f y := fun y e => by cases e; exact h
theorem EN {F : FT} {f : Nat} : ∀ y, (none : Option FEntry) = some y → EOk F f y := fun y e => by cases e
theorem ftbl_ok {F : FT} (hA : ∀ f m, tbl.get f = some m → F f = some m) : TOk F ftbl := fun f x e => Tr.all_get (p := fun f x => EOk F f x) (t := ftbl) (g := fun n => n) ⟨EN, ⟨EN, ⟨EN, ⟨EN, ⟨EN, ⟨EN, ⟨EN, ⟨EO (EOk.fn (hA 127 _ rfl) e127), trivial, trivial⟩, trivial⟩, ⟨EN, ⟨EO (EOk.fn (hA 159 _ rfl) e159), trivial, trivial⟩, trivial⟩⟩, ⟨EO (EOk.fn (hA 47 _ rfl) e47), trivial, trivial⟩⟩, ⟨EN, ⟨EO (EOk.fn (hA 39 _ rfl) e39), ⟨EO (EOk.fn (hA 71 _ rfl) e71), trivial, ⟨EO (EOk.fn (hA 199 _ rfl) e199), trivial, trivial⟩⟩, ⟨EN, ⟨EO (EOk.fn (hA 167 _ rfl) e167), trivial, trivial⟩, trivial⟩⟩, ⟨EO (EOk.fn (hA 55 _ rfl) e55), ⟨EO (EOk.fn (hA 87 _ rfl) e87), ⟨EO (EOk.fn (hA 151 _ rfl) e151), trivial, trivial⟩, trivial⟩, ⟨EO (EOk.fn (hA 119 _ rfl) e119), ⟨EO (EOk.fn (hA 183 _ rfl) e183), trivial, trivial⟩, trivial⟩⟩⟩⟩, ⟨EN, ⟨EN, ⟨EO (EOk.fn (hA 35 _ rfl) e35), ⟨EN, ⟨EO (EOk.fn (hA 131 _ rfl) e131), trivial, trivial⟩, trivial⟩, ⟨EO (EOk.fn (hA 99 _ rfl) e99), ⟨EO (EOk.fn (hA 163 _ rfl) e163), trivial, trivial⟩, trivial⟩⟩, ⟨EN, ⟨EO (EOk.fn (hA 83 _ rfl) e83), trivial, trivial⟩, ⟨EO (EOk.fn (hA 115 _ rfl) e115), trivial, trivial⟩⟩⟩, ⟨EN, ⟨EN, ⟨EO (EOk.fn (hA 75 _ rfl) e75), ⟨EO (EOk.fn (hA 139 _ rfl) e139), trivial, trivial⟩, ⟨EO (EOk.prim (hA 203 _ rfl)), trivial, trivial⟩⟩, ⟨EN, ⟨EO (EOk.fn (hA 171 _ rfl) e171), trivial, trivial⟩, trivial⟩⟩, ⟨EN, ⟨EN, ⟨EO (EOk.fn (hA 155 _ rfl) e155), trivial, trivial⟩, trivial⟩, ⟨EO (EOk.fn (hA 123 _ rfl) e123), ⟨EO (EOk.fn (hA 187 _ rfl) e187), trivial, trivial⟩, trivial⟩⟩⟩⟩⟩, ⟨EO (EOk.fn (hA 5 _ rfl) e5), ⟨EN, ⟨EN, ⟨EN, ⟨EN, ⟨EO (EOk.fn (hA 129 _ rfl) e129), trivial, trivial⟩, trivial⟩, ⟨EO (EOk.df (hA 97 _ rfl) e97), ⟨EO (EOk.fn (hA 161 _ rfl) e161), trivial, trivial⟩, trivial⟩⟩, ⟨EO (EOk.fn (hA 49 _ rfl) e49), ⟨EO (EOk.fn (hA 81 _ rfl) e81), trivial, trivial⟩, trivial⟩⟩, ⟨EN, ⟨EN, ⟨EO (EOk.fn (hA 73 _ rfl) e73), ⟨EO (EOk.fn (hA 137 _ rfl) e137), trivial, trivial⟩, trivial⟩, trivial⟩, ⟨EN, ⟨EO (EOk.fn (hA 89 _ rfl) e89), ⟨EO (EOk.fn (hA 153 _ rfl) e153), trivial, trivial⟩, trivial⟩, ⟨EO (EOk.fn (hA 121 _ rfl) e121), ⟨EO (EOk.fn (hA 185 _ rfl) e185), trivial, trivial⟩, trivial⟩⟩⟩⟩, ⟨EN, ⟨EN, ⟨EO (EOk.fn (hA 37 _ rfl) e37), ⟨EN, ⟨EO (EOk.fn (hA 133 _ rfl) e133), trivial, trivial⟩, trivial⟩, ⟨EN, ⟨EO (EOk.fn (hA 165 _ rfl) e165), trivial, trivial⟩, trivial⟩⟩, ⟨EN, ⟨EO (EOk.fn (hA 85 _ rfl) e85), trivial, trivial⟩, ⟨EO (EOk.fn (hA 117 _ rfl) e117), ⟨EO (EOk.fn (hA 181 _ rfl) e181), trivial, trivial⟩, trivial⟩⟩⟩, ⟨EN, ⟨EN, ⟨EN, trivial, ⟨EO (EOk.fn (hA 205 _ rfl) e205), trivial, trivial⟩⟩, ⟨EO (EOk.fn (hA 109 _ rfl) e109), trivial, trivial⟩⟩, ⟨EN, ⟨EN, ⟨EO (EOk.fn (hA 157 _ rfl) e157), trivial, trivial⟩, trivial⟩, ⟨EO (EOk.fn (hA 125 _ rfl) e125), ⟨EO (EOk.fn (hA 189 _ rfl) e189), trivial, trivial⟩, trivial⟩⟩⟩⟩⟩⟩, ⟨EN, ⟨EN, ⟨EN, ⟨EO (EOk.fn (hA 16 _ rfl) e16), ⟨EN, ⟨EN, ⟨EO (EOk.fn (hA 128 _ rfl) e128), trivial, trivial⟩, trivial⟩, ⟨EO (EOk.fn (hA 96 _ rfl) e96), ⟨EO (EOk.fn (hA 160 _ rfl) e160), trivial, trivial⟩, trivial⟩⟩, ⟨EO (EOk.fn (hA 48 _ rfl) e48), trivial, trivial⟩⟩, ⟨EN, ⟨EO (EOk.fn (hA 40 _ rfl) e40), ⟨EO (EOk.df (hA 72 _ rfl) e72), ⟨EO (EOk.fn (hA 136 _ rfl) e136), trivial, trivial⟩, ⟨EO (EOk.fn (hA 200 _ rfl) e200), trivial, trivial⟩⟩, trivial⟩, ⟨EO (EOk.fn (hA 56 _ rfl) e56), ⟨EO (EOk.fn (hA 88 _ rfl) e88), ⟨EO (EOk.fn (hA 152 _ rfl) e152), trivial, trivial⟩, trivial⟩, ⟨EO (EOk.fn (hA 120 _ rfl) e120), ⟨EO (EOk.fn (hA 184 _ rfl) e184), trivial, trivial⟩, trivial⟩⟩⟩⟩, ⟨EN, ⟨EO (EOk.fn (hA 20 _ rfl) e20), ⟨EO (EOk.fn (hA 36 _ rfl) e36), ⟨EO (EOk.fn (hA 68 _ rfl) e68), ⟨EO (EOk.fn (hA 132 _ rfl) e132), trivial, trivial⟩, trivial⟩, ⟨EO (EOk.fn (hA 100 _ rfl) e100), ⟨EO (EOk.fn (hA 164 _ rfl) e164), trivial, trivial⟩, trivial⟩⟩, ⟨EN, ⟨EO (EOk.fn (hA 84 _ rfl) e84), ⟨EO (EOk.fn (hA 148 _ rfl) e148), trivial, trivial⟩, trivial⟩, ⟨EO (EOk.fn (hA 116 _ rfl) e116), ⟨EO (EOk.fn (hA 180 _ rfl) e180), trivial, trivial⟩, trivial⟩⟩⟩, ⟨EN, ⟨EO (EOk.prim (hA 44 _ rfl)), ⟨EN, trivial, ⟨EO (EOk.fn (hA 204 _ rfl) e204), trivial, trivial⟩⟩, ⟨EO (EOk.fn (hA 108 _ rfl) e108), trivial, trivial⟩⟩, ⟨EN, ⟨EN, ⟨EO (EOk.fn (hA 156 _ rfl) e156), trivial, trivial⟩, trivial⟩, ⟨EO (EOk.df (hA 124 _ rfl) e124), ⟨EO (EOk.fn (hA 188 _ rfl) e188), trivial, trivial⟩, trivial⟩⟩⟩⟩⟩, ⟨EN, ⟨EN, ⟨EO (EOk.fn (hA 18 _ rfl) e18), ⟨EN, ⟨EN, ⟨EO (EOk.fn (hA 130 _ rfl) e130), trivial, trivial⟩, trivial⟩, ⟨EO (EOk.fn (hA 98 _ rfl) e98), ⟨EO (EOk.fn (hA 162 _ rfl) e162), trivial, trivial⟩, trivial⟩⟩, ⟨EO (EOk.fn (hA 50 _ rfl) e50), ⟨EO (EOk.df (hA 82 _ rfl) e82), trivial, trivial⟩, ⟨EO (EOk.fn (hA 114 _ rfl) e114), trivial, trivial⟩⟩⟩, ⟨EO (EOk.fn (hA 26 _ rfl) e26), ⟨EN, ⟨EO (EOk.fn (hA 74 _ rfl) e74), ⟨EO (EOk.fn (hA 138 _ rfl) e138), trivial, trivial⟩, trivial⟩, ⟨EN, ⟨EO (EOk.fn (hA 170 _ rfl) e170), trivial, trivial⟩, trivial⟩⟩, ⟨EN, ⟨EO (EOk.fn (hA 90 _ rfl) e90), ⟨EO (EOk.fn (hA 154 _ rfl) e154), trivial, trivial⟩, trivial⟩, ⟨EO (EOk.fn (hA 122 _ rfl) e122), ⟨EO (EOk.fn (hA 186 _ rfl) e186), trivial, trivial⟩, trivial⟩⟩⟩⟩, ⟨EN, ⟨EN, ⟨EO (EOk.fn (hA 38 _ rfl) e38), ⟨EN, trivial, ⟨EO (EOk.fn (hA 198 _ rfl) e198), trivial, trivial⟩⟩, ⟨EN, ⟨EO (EOk.fn (hA 166 _ rfl) e166), trivial, trivial⟩, trivial⟩⟩, ⟨EO (EOk.fn (hA 54 _ rfl) e54), ⟨EO (EOk.fn (hA 86 _ rfl) e86), ⟨EO (EOk.fn (hA 150 _ rfl) e150), trivial, trivial⟩, trivial⟩, ⟨EO (EOk.fn (hA 118 _ rfl) e118), ⟨EO (EOk.fn (hA 182 _ rfl) e182), trivial, trivial⟩, trivial⟩⟩⟩, ⟨EN, trivial, ⟨EN, ⟨EN, ⟨EO (EOk.fn (hA 158 _ rfl) e158), trivial, trivial⟩, trivial⟩, ⟨EO (EOk.fn (hA 126 _ rfl) e126), ⟨EO (EOk.fn (hA 190 _ rfl) e190), trivial, trivial⟩, trivial⟩⟩⟩⟩⟩⟩⟩ e
end Go.Ev
