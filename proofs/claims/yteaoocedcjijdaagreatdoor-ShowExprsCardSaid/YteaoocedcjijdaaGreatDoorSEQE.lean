/- They stand for the table's. -/
import Derived.Test.YteaoocedcjijdaaGreatDoorSEQT
import Derived.Test.YteaoocedcjijdaaGreatDoorSEQH
import Derived.KernelRfl
import Derived.Test.YteaoocedcjijdaaGreatDoorEvC
set_option linter.all false
set_option linter.unusedVariables false
set_option linter.unusedSimpArgs false
namespace Go.Ev
open Go
set_option maxRecDepth 100000
theorem e18:feFun 1 m18=h18:=by kernel_rfl
theorem e20:feFun 0 m20=h20:=by kernel_rfl
theorem e21:feFun 1 m21=h21:=by kernel_rfl
theorem e24:feFun 1 m24=h24:=by kernel_rfl
theorem e25:feFun 1 m25=h25:=by kernel_rfl
theorem e29:feFun 1 m29=h29:=by kernel_rfl
theorem e33:feFun 1 m33=h33:=by kernel_rfl
theorem e46:feFun 2 m46=h46:=by kernel_rfl
theorem e47:feFun 1 m47=h47:=by kernel_rfl
theorem e48:feFun 1 m48=h48:=by kernel_rfl
theorem e49:feFun 1 m49=h49:=by kernel_rfl
theorem e50:feFun 1 m50=h50:=by kernel_rfl
theorem e51:feFun 1 m51=h51:=by kernel_rfl
theorem e52:feFun 2 m52=h52:=by kernel_rfl
theorem e53:feFun 2 m53=h53:=by kernel_rfl
theorem e56:feFun 2 m56=h56:=by kernel_rfl
theorem e57:feFun 2 m57=h57:=by kernel_rfl
theorem e58:feFun 1 m58=h58:=by kernel_rfl
theorem e59:feFun 1 m59=h59:=by kernel_rfl
theorem e64:feFun 2 m64=h64:=by kernel_rfl
theorem e70:feDef 2 m70=d70:=by kernel_rfl
theorem e71:feFun 1 m71=h71:=by kernel_rfl
theorem e72:feFun 3 m72=h72:=by kernel_rfl
theorem e73:feFun 1 m73=h73:=by kernel_rfl
theorem e84:feDef 2 m84=d84:=by kernel_rfl
theorem e85:feFun 1 m85=h85:=by kernel_rfl
theorem e86:feFun 2 m86=h86:=by kernel_rfl
theorem e87:feFun 2 m87=h87:=by kernel_rfl
theorem e88:feFun 1 m88=h88:=by kernel_rfl
theorem e89:feFun 1 m89=h89:=by kernel_rfl
theorem e90:feFun 2 m90=h90:=by kernel_rfl
theorem e91:feFun 1 m91=h91:=by kernel_rfl
theorem e92:feFun 2 m92=h92:=by kernel_rfl
theorem e93:feDef 1 m93=d93:=by kernel_rfl
theorem e94:feFun 2 m94=h94:=by kernel_rfl
theorem e95:feFun 3 m95=h95:=by kernel_rfl
theorem e96:feFun 2 m96=h96:=by kernel_rfl
theorem e97:feFun 2 m97=h97:=by kernel_rfl
theorem e98:feFun 1 m98=h98:=by kernel_rfl
theorem e100:feFun 2 m100=h100:=by kernel_rfl
theorem e102:feFun 2 m102=h102:=by kernel_rfl
theorem e103:feFun 1 m103=h103:=by kernel_rfl
theorem e104:feFun 4 m104=h104:=by kernel_rfl
theorem e105:feFun 1 m105=h105:=by kernel_rfl
theorem e107:feFun 2 m107=h107:=by kernel_rfl
theorem e108:feFun 1 m108=h108:=by kernel_rfl
theorem e110:feFun 2 m110=h110:=by kernel_rfl
theorem e112:feFun 2 m112=h112:=by kernel_rfl
theorem e113:feFun 1 m113=h113:=by kernel_rfl
theorem e114:feFun 2 m114=h114:=by kernel_rfl
theorem e115:feFun 1 m115=h115:=by kernel_rfl
theorem e116:feFun 2 m116=h116:=by kernel_rfl
theorem e117:feFun 1 m117=h117:=by kernel_rfl
theorem e118:feFun 1 m118=h118:=by kernel_rfl
theorem e119:feFun 1 m119=h119:=by kernel_rfl
theorem e120:feFun 1 m120=h120:=by kernel_rfl
theorem e121:feFun 1 m121=h121:=by kernel_rfl
theorem e122:feFun 1 m122=h122:=by kernel_rfl
theorem e133:feFun 2 m133=h133:=by kernel_rfl
theorem e134:feFun 2 m134=h134:=by kernel_rfl
theorem e135:feFun 2 m135=h135:=by kernel_rfl
theorem e136:feFun 2 m136=h136:=by kernel_rfl
theorem e137:feFun 1 m137=h137:=by kernel_rfl
theorem e138:feFun 2 m138=h138:=by kernel_rfl
theorem e139:feFun 2 m139=h139:=by kernel_rfl
theorem e140:feFun 2 m140=h140:=by kernel_rfl
theorem e142:feFun 2 m142=h142:=by kernel_rfl
theorem e144:feFun 2 m144=h144:=by kernel_rfl
theorem e146:feFun 1 m146=h146:=by kernel_rfl
theorem e149:feFun 2 m149=h149:=by kernel_rfl
theorem e151:feFun 2 m151=h151:=by kernel_rfl
theorem e152:feFun 1 m152=h152:=by kernel_rfl
theorem e153:feFun 1 m153=h153:=by kernel_rfl
theorem e154:feFun 1 m154=h154:=by kernel_rfl
theorem e155:feFun 2 m155=h155:=by kernel_rfl
theorem e163:feFun 1 m163=h163:=by kernel_rfl
theorem e164:feFun 2 m164=h164:=by kernel_rfl
theorem e169:feFun 5 m169=h169:=by kernel_rfl
theorem e172:feFun 1 m172=h172:=by kernel_rfl
theorem e173:feFun 1 m173=h173:=by kernel_rfl
theorem e174:feFun 2 m174=h174:=by kernel_rfl
theorem e176:feFun 1 m176=h176:=by kernel_rfl
theorem e177:feFun 1 m177=h177:=by kernel_rfl
theorem e178:feFun 3 m178=h178:=by kernel_rfl
theorem e179:feFun 2 m179=h179:=by kernel_rfl
theorem e183:feFun 1 m183=h183:=by kernel_rfl
theorem e184:feFun 1 m184=h184:=by kernel_rfl
theorem e187:feFun 1 m187=h187:=by kernel_rfl
theorem e189:feFun 1 m189=h189:=by kernel_rfl
theorem e190:feFun 1 m190=h190:=by kernel_rfl
theorem e191:feFun 1 m191=h191:=by kernel_rfl
theorem e192:feFun 1 m192=h192:=by kernel_rfl
theorem e193:feFun 1 m193=h193:=by kernel_rfl
noncomputable def ftbl:Tr FEntry:=(.node (.node (.node (.node (.node (.node (.node .nil none (.node .nil (some (.fn h191)) .nil)) none (.node .nil (some (.fn h95)) .nil)) none (.node .nil (some (.fn h47)) .nil)) none (.node (.node (.node (.node .nil (some (.fn h135)) .nil) (some (.fn h71)) .nil) none (.node .nil (some (.fn h103)) .nil)) none (.node (.node (.node .nil (some (.fn h151)) .nil) (some (.fn h87)) .nil) none (.node (.node .nil (some (.fn h183)) .nil) (some (.fn h119)) .nil)))) none (.node (.node (.node .nil none (.node (.node .nil (some (.fn h163)) .nil) (some (.fn (fePrim pIt))) .nil)) none (.node .nil (some (.fn h51)) (.node (.node .nil (some (.fn h179)) .nil) (some (.fn h115)) .nil))) none (.node (.node (.node (.node .nil (some (.fn h139)) .nil) none .nil) none (.node .nil (some (.fn h107)) .nil)) none (.node (.node (.node .nil (some (.fn h155)) .nil) (some (.fn h91)) .nil) (some (.fn h59)) (.node (.node .nil (some (.fn h187)) .nil) none .nil))))) none (.node (.node (.node (.node (.node .nil (some (.fn (fePrim pSt))) (.node .nil (some (.fn h193)) .nil)) (some (.fn h33)) (.node .nil (some (.fn h97)) .nil)) none (.node .nil (some (.fn h49)) (.node (.node .nil (some (.fn h177)) .nil) (some (.fn h113)) .nil))) none (.node (.node (.node (.node .nil (some (.fn h137)) .nil) (some (.fn h73)) .nil) none (.node (.node .nil (some (.fn h169)) .nil) (some (.fn h105)) .nil)) (some (.fn h25)) (.node (.node (.node .nil (some (.fn h153)) .nil) (some (.fn h89)) .nil) (some (.fn h57)) (.node .nil (some (.fn h121)) .nil)))) none (.node (.node (.node (.node (.node .nil (some (.fn h133)) .nil) none .nil) none (.node .nil (some (.fn (fePrim pRe))) .nil)) (some (.fn h21)) (.node (.node (.node .nil (some (.fn h149)) .nil) (some (.fn h85)) .nil) (some (.fn h53)) (.node .nil (some (.fn h117)) .nil))) none (.node (.node .nil none (.node (.node .nil (some (.fn h173)) .nil) (some (.fn (fePrim pJo))) .nil)) (some (.fn h29)) (.node (.node .nil (some (.df d93)) .nil) none (.node (.node .nil (some (.fn h189)) .nil) none .nil)))))) none (.node (.node (.node (.node (.node (.node .nil (some (.fn h64)) (.node .nil (some (.fn h192)) .nil)) none (.node .nil (some (.fn h96)) .nil)) none (.node (.node (.node .nil (some (.fn h144)) .nil) none .nil) (some (.fn h48)) (.node (.node .nil (some (.fn h176)) .nil) (some (.fn h112)) .nil))) none (.node (.node (.node (.node .nil (some (.fn h136)) .nil) (some (.fn h72)) .nil) none (.node .nil (some (.fn h104)) .nil)) (some (.fn h24)) (.node (.node (.node .nil (some (.fn h152)) .nil) (some (.fn h88)) .nil) (some (.fn h56)) (.node (.node .nil (some (.fn h184)) .nil) (some (.fn h120)) .nil)))) none (.node (.node (.node .nil none (.node (.node .nil (some (.fn h164)) .nil) (some (.fn h100)) .nil)) none (.node (.node .nil (some (.df d84)) .nil) (some (.fn h52)) (.node .nil (some (.fn h116)) .nil))) none (.node (.node (.node (.node .nil (some (.fn h140)) .nil) none .nil) none (.node (.node .nil (some (.fn h172)) .nil) (some (.fn h108)) .nil)) none (.node (.node .nil (some (.fn h92)) .nil) none (.node (.node .nil (some (.fn (fePrim pIdx))) .nil) none .nil))))) none (.node (.node (.node (.node .nil none (.node .nil (some (.fn h98)) .nil)) (some (.fn h18)) (.node (.node (.node .nil (some (.fn h146)) .nil) none .nil) (some (.fn h50)) (.node (.node .nil (some (.fn h178)) .nil) (some (.fn h114)) .nil))) none (.node (.node (.node (.node .nil (some (.fn h138)) .nil) none .nil) none (.node (.node .nil (some (.fn (fePrim pCC))) .nil) none .nil)) none (.node (.node (.node .nil (some (.fn h154)) .nil) (some (.fn h90)) .nil) (some (.fn h58)) (.node .nil (some (.fn h122)) .nil)))) none (.node (.node (.node (.node (.node .nil (some (.fn h134)) .nil) (some (.df d70)) .nil) none (.node .nil (some (.fn h102)) .nil)) none (.node (.node .nil (some (.fn h86)) .nil) none (.node .nil (some (.fn h118)) .nil))) none (.node (.node (.node (.node .nil (some (.fn h142)) .nil) none .nil) (some (.fn h46)) (.node (.node .nil (some (.fn h174)) .nil) (some (.fn h110)) .nil)) none (.node (.node .nil (some (.fn h94)) .nil) none (.node (.node .nil (some (.fn h190)) .nil) none .nil)))))))
theorem EO {F:FT} {f:Nat} {x:FEntry} (h:EOk F f x):∀y,some x=some y→EOk F f y:=fun y e=>by cases e;exact h
theorem EN {F:FT} {f:Nat}:∀y,(none:Option FEntry)=some y→EOk F f y:=fun y e=>by cases e
theorem ftbl_ok {F:FT} (hA:∀f m,tbl.get f=some m→F f=some m):TOk F ftbl:=fun f x e=>Tr.all_get (p:=fun f x=>EOk F f x) (t:=ftbl) (g:=fun n=>n) ⟨EN,⟨EN,⟨EN,⟨EN,⟨EN,⟨EN,⟨EN,trivial,⟨EO (EOk.fn (hA 191 _ rfl) e191),trivial,trivial⟩⟩,⟨EO (EOk.fn (hA 95 _ rfl) e95),trivial,trivial⟩⟩,⟨EO (EOk.fn (hA 47 _ rfl) e47),trivial,trivial⟩⟩,⟨EN,⟨EN,⟨EO (EOk.fn (hA 71 _ rfl) e71),⟨EO (EOk.fn (hA 135 _ rfl) e135),trivial,trivial⟩,trivial⟩,⟨EO (EOk.fn (hA 103 _ rfl) e103),trivial,trivial⟩⟩,⟨EN,⟨EO (EOk.fn (hA 87 _ rfl) e87),⟨EO (EOk.fn (hA 151 _ rfl) e151),trivial,trivial⟩,trivial⟩,⟨EO (EOk.fn (hA 119 _ rfl) e119),⟨EO (EOk.fn (hA 183 _ rfl) e183),trivial,trivial⟩,trivial⟩⟩⟩⟩,⟨EN,⟨EN,⟨EN,trivial,⟨EO (EOk.prim (hA 99 _ rfl)),⟨EO (EOk.fn (hA 163 _ rfl) e163),trivial,trivial⟩,trivial⟩⟩,⟨EO (EOk.fn (hA 51 _ rfl) e51),trivial,⟨EO (EOk.fn (hA 115 _ rfl) e115),⟨EO (EOk.fn (hA 179 _ rfl) e179),trivial,trivial⟩,trivial⟩⟩⟩,⟨EN,⟨EN,⟨EN,⟨EO (EOk.fn (hA 139 _ rfl) e139),trivial,trivial⟩,trivial⟩,⟨EO (EOk.fn (hA 107 _ rfl) e107),trivial,trivial⟩⟩,⟨EO (EOk.fn (hA 59 _ rfl) e59),⟨EO (EOk.fn (hA 91 _ rfl) e91),⟨EO (EOk.fn (hA 155 _ rfl) e155),trivial,trivial⟩,trivial⟩,⟨EN,⟨EO (EOk.fn (hA 187 _ rfl) e187),trivial,trivial⟩,trivial⟩⟩⟩⟩⟩,⟨EN,⟨EN,⟨EN,⟨EO (EOk.fn (hA 33 _ rfl) e33),⟨EO (EOk.prim (hA 65 _ rfl)),trivial,⟨EO (EOk.fn (hA 193 _ rfl) e193),trivial,trivial⟩⟩,⟨EO (EOk.fn (hA 97 _ rfl) e97),trivial,trivial⟩⟩,⟨EO (EOk.fn (hA 49 _ rfl) e49),trivial,⟨EO (EOk.fn (hA 113 _ rfl) e113),⟨EO (EOk.fn (hA 177 _ rfl) e177),trivial,trivial⟩,trivial⟩⟩⟩,⟨EO (EOk.fn (hA 25 _ rfl) e25),⟨EN,⟨EO (EOk.fn (hA 73 _ rfl) e73),⟨EO (EOk.fn (hA 137 _ rfl) e137),trivial,trivial⟩,trivial⟩,⟨EO (EOk.fn (hA 105 _ rfl) e105),⟨EO (EOk.fn (hA 169 _ rfl) e169),trivial,trivial⟩,trivial⟩⟩,⟨EO (EOk.fn (hA 57 _ rfl) e57),⟨EO (EOk.fn (hA 89 _ rfl) e89),⟨EO (EOk.fn (hA 153 _ rfl) e153),trivial,trivial⟩,trivial⟩,⟨EO (EOk.fn (hA 121 _ rfl) e121),trivial,trivial⟩⟩⟩⟩,⟨EN,⟨EO (EOk.fn (hA 21 _ rfl) e21),⟨EN,⟨EN,⟨EO (EOk.fn (hA 133 _ rfl) e133),trivial,trivial⟩,trivial⟩,⟨EO (EOk.prim (hA 101 _ rfl)),trivial,trivial⟩⟩,⟨EO (EOk.fn (hA 53 _ rfl) e53),⟨EO (EOk.fn (hA 85 _ rfl) e85),⟨EO (EOk.fn (hA 149 _ rfl) e149),trivial,trivial⟩,trivial⟩,⟨EO (EOk.fn (hA 117 _ rfl) e117),trivial,trivial⟩⟩⟩,⟨EO (EOk.fn (hA 29 _ rfl) e29),⟨EN,trivial,⟨EO (EOk.prim (hA 109 _ rfl)),⟨EO (EOk.fn (hA 173 _ rfl) e173),trivial,trivial⟩,trivial⟩⟩,⟨EN,⟨EO (EOk.df (hA 93 _ rfl) e93),trivial,trivial⟩,⟨EN,⟨EO (EOk.fn (hA 189 _ rfl) e189),trivial,trivial⟩,trivial⟩⟩⟩⟩⟩⟩,⟨EN,⟨EN,⟨EN,⟨EN,⟨EN,⟨EO (EOk.fn (hA 64 _ rfl) e64),trivial,⟨EO (EOk.fn (hA 192 _ rfl) e192),trivial,trivial⟩⟩,⟨EO (EOk.fn (hA 96 _ rfl) e96),trivial,trivial⟩⟩,⟨EO (EOk.fn (hA 48 _ rfl) e48),⟨EN,⟨EO (EOk.fn (hA 144 _ rfl) e144),trivial,trivial⟩,trivial⟩,⟨EO (EOk.fn (hA 112 _ rfl) e112),⟨EO (EOk.fn (hA 176 _ rfl) e176),trivial,trivial⟩,trivial⟩⟩⟩,⟨EO (EOk.fn (hA 24 _ rfl) e24),⟨EN,⟨EO (EOk.fn (hA 72 _ rfl) e72),⟨EO (EOk.fn (hA 136 _ rfl) e136),trivial,trivial⟩,trivial⟩,⟨EO (EOk.fn (hA 104 _ rfl) e104),trivial,trivial⟩⟩,⟨EO (EOk.fn (hA 56 _ rfl) e56),⟨EO (EOk.fn (hA 88 _ rfl) e88),⟨EO (EOk.fn (hA 152 _ rfl) e152),trivial,trivial⟩,trivial⟩,⟨EO (EOk.fn (hA 120 _ rfl) e120),⟨EO (EOk.fn (hA 184 _ rfl) e184),trivial,trivial⟩,trivial⟩⟩⟩⟩,⟨EN,⟨EN,⟨EN,trivial,⟨EO (EOk.fn (hA 100 _ rfl) e100),⟨EO (EOk.fn (hA 164 _ rfl) e164),trivial,trivial⟩,trivial⟩⟩,⟨EO (EOk.fn (hA 52 _ rfl) e52),⟨EO (EOk.df (hA 84 _ rfl) e84),trivial,trivial⟩,⟨EO (EOk.fn (hA 116 _ rfl) e116),trivial,trivial⟩⟩⟩,⟨EN,⟨EN,⟨EN,⟨EO (EOk.fn (hA 140 _ rfl) e140),trivial,trivial⟩,trivial⟩,⟨EO (EOk.fn (hA 108 _ rfl) e108),⟨EO (EOk.fn (hA 172 _ rfl) e172),trivial,trivial⟩,trivial⟩⟩,⟨EN,⟨EO (EOk.fn (hA 92 _ rfl) e92),trivial,trivial⟩,⟨EN,⟨EO (EOk.prim (hA 188 _ rfl)),trivial,trivial⟩,trivial⟩⟩⟩⟩⟩,⟨EN,⟨EN,⟨EO (EOk.fn (hA 18 _ rfl) e18),⟨EN,trivial,⟨EO (EOk.fn (hA 98 _ rfl) e98),trivial,trivial⟩⟩,⟨EO (EOk.fn (hA 50 _ rfl) e50),⟨EN,⟨EO (EOk.fn (hA 146 _ rfl) e146),trivial,trivial⟩,trivial⟩,⟨EO (EOk.fn (hA 114 _ rfl) e114),⟨EO (EOk.fn (hA 178 _ rfl) e178),trivial,trivial⟩,trivial⟩⟩⟩,⟨EN,⟨EN,⟨EN,⟨EO (EOk.fn (hA 138 _ rfl) e138),trivial,trivial⟩,trivial⟩,⟨EN,⟨EO (EOk.prim (hA 170 _ rfl)),trivial,trivial⟩,trivial⟩⟩,⟨EO (EOk.fn (hA 58 _ rfl) e58),⟨EO (EOk.fn (hA 90 _ rfl) e90),⟨EO (EOk.fn (hA 154 _ rfl) e154),trivial,trivial⟩,trivial⟩,⟨EO (EOk.fn (hA 122 _ rfl) e122),trivial,trivial⟩⟩⟩⟩,⟨EN,⟨EN,⟨EN,⟨EO (EOk.df (hA 70 _ rfl) e70),⟨EO (EOk.fn (hA 134 _ rfl) e134),trivial,trivial⟩,trivial⟩,⟨EO (EOk.fn (hA 102 _ rfl) e102),trivial,trivial⟩⟩,⟨EN,⟨EO (EOk.fn (hA 86 _ rfl) e86),trivial,trivial⟩,⟨EO (EOk.fn (hA 118 _ rfl) e118),trivial,trivial⟩⟩⟩,⟨EN,⟨EO (EOk.fn (hA 46 _ rfl) e46),⟨EN,⟨EO (EOk.fn (hA 142 _ rfl) e142),trivial,trivial⟩,trivial⟩,⟨EO (EOk.fn (hA 110 _ rfl) e110),⟨EO (EOk.fn (hA 174 _ rfl) e174),trivial,trivial⟩,trivial⟩⟩,⟨EN,⟨EO (EOk.fn (hA 94 _ rfl) e94),trivial,trivial⟩,⟨EN,⟨EO (EOk.fn (hA 190 _ rfl) e190),trivial,trivial⟩,trivial⟩⟩⟩⟩⟩⟩⟩ e
end Go.Ev
