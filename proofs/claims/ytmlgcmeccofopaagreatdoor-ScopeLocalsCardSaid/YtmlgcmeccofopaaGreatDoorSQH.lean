/- The functions as the fast evaluator runs them: printed by program. -/
import Derived.Test.YtmlgcmeccofopaaGreatDoorEvC
set_option linter.all false
set_option linter.unusedVariables false
set_option linter.unusedSimpArgs false
set_option linter.all false
set_option linter.unusedVariables false
namespace Go.Ev
open Go
set_option maxRecDepth 100000
noncomputable def h5 : FBody := fun c D k A h kr kp => ifB (Nat.beq (lenV A) 2) (
c 12 [] h (fun x2 h3 =>
p_not x2 fun x4 =>
joinL (fun j5 => p_if x4 (
kr vF h3) (j5 [vF] h3)) fun l6 h7 =>
p_cvi .u64 (nthV A 0) fun x8 =>
p_gen (.bin .rem (.t 14) (.c (.int .u64 (.ofNat 40)))) [(14, x8)] h7 fun x9 h10 k11 =>
p_cvi .i64 x9 fun x12 =>
p_cvi .u64 (nthV A 1) fun x13 =>
p_gen (.bin .rem (.t 18) (.c (.int .u64 (.ofNat 5)))) [(18, x13)] h10 fun x14 h15 k16 =>
p_cvi .i64 x14 fun x17 =>
p_add (vi 1) x17 fun x18 =>
joinL (fun j19 =>
loopB k (fun r22 l23 h24 =>
p_bin .lss fiLss (nthV l23 1) x12 fun x25 =>
joinL (fun j26 => p_if x25 (
j26 [] h24) (j19 [(nthV l23 0)] h24)) fun l27 h28 =>
joinL (fun j29 =>
p_gen (.bin .rem (.t 26) (.t 27)) [(26, (nthV l23 1)), (27, x18)] h28 fun x32 h33 k34 =>
p_eq x32 (vi 0) fun x35 =>
joinL (fun j36 => p_if x35 (
p_add (nthV l23 0) (.str [105, 102, 32, 116, 114, 117, 101, 32, 123]) fun x39 =>
j36 [x39] h33) (j36 [(nthV l23 0)] h33)) fun l37 h38 =>
p_gen (.bin .rem (.t 33) (.t 34)) [(33, (nthV l23 1)), (34, x18)] h38 fun x40 h41 k42 =>
p_add (vi 97) x40 fun x43 =>
p_cvi .u8 x43 fun x44 =>
onFill [(0, 1, x44)] [(.int .u8 (.ofNat 0))] fun l45 => ifB (flatsQ l45) ((fun (x46 : AV) (h47 : AHeap) =>
p_gen (.cvbs (.t 38)) [(38, x46)] h47 fun x48 h49 k50 =>
p_add (.str [118]) x48 fun x51 =>
p_add x51 (.str [32, 58, 61, 32, 49, 59]) fun x52 =>
p_add (nthV l37 0) x52 fun x53 =>
p_gen (.bin .rem (.t 43) (.t 44)) [(43, (nthV l23 1)), (44, x18)] h49 fun x54 h55 k56 =>
p_bin .sub fiSub x18 (vi 1) fun x57 =>
p_eq x54 x57 fun x58 =>
joinV (fun j59 => p_no x58 (j59 (nthV l23 1) h55) (j59 undefA h55)) fun x60 h61 =>
joinV (fun j62 => p_no x58 (j62 x12 h61) (j62 undefA h61)) fun x63 h64 =>
joinV (fun j65 => p_no x58 (p_bin .sub fiSub x63 (vi 1) fun x68 =>
j65 x68 h64) (j65 undefA h64)) fun x66 h67 =>
joinV (fun j69 => p_no x58 (p_eq x60 x66 fun x72 =>
j69 x72 h67) (j69 undefA h67)) fun x70 h71 =>
p_pick x58 vT x70 fun x73 =>
p_if x73 (p_add x53 (.str [125]) fun x74 =>
j29 [x74] h71) (j29 [x53] h71)) (.slice h41.n (nat_lit 0) 1 1 true) (alQ h41 (.cells .own 1 l45))) false) fun l30 h31 =>
p_add (nthV l23 1) (vi 1) fun x75 =>
r22 [(nthV l30 0), x75] h31) [(.str [102, 117, 110, 99, 32, 109, 97, 105, 110, 40, 41, 32, 123]), (vi 0)] h15) fun l20 h21 =>
p_add (nthV l20 0) (.str [125]) fun x76 =>
c 20 [x76] h21 (fun x79 h80 =>
p_ext x79 0 fun x81 =>
p_ext x79 1 fun x82 =>
(fun (x83 : AV) (h84 : AHeap) =>
(fun (x85 : AV) (h86 : AHeap) =>
p_store 9 x83 x81 h86 fun h87 b88 =>
p_store 2 x85 x82 h87 fun h89 b90 =>
p_faddr 0 x85 fun x91 =>
p_load1 x91 h89 fun x92 b93 =>
p_eqv true (.one .iface) x92 .nilIface fun x94 =>
joinL (fun j95 => p_if x94 (
kr vF h89) (j95 [(nthV l6 0)] h89)) fun l96 h97 =>
p_loadN 9 x83 h97 fun x98 b99 =>
c 16 [x98] h97 (fun x102 h103 =>
p_ext x102 0 fun x104 =>
p_ext x102 1 fun x105 =>
(fun (x106 : AV) (h107 : AHeap) =>
(fun (x108 : AV) (h109 : AHeap) =>
p_store 6 x106 x104 h109 fun h110 b111 =>
p_store 2 x108 x105 h110 fun h112 b113 =>
p_bin .gtr fiGtr x12 (vi 32) fun x114 =>
joinL (fun j115 => p_if x114 (
p_faddr 0 x108 fun x118 =>
p_load1 x118 h112 fun x119 b120 =>
c 18 [x119] h112 (fun x123 h124 =>
p_eq x123 (vi 6) fun x125 =>
kr x125 h124) kp) (j115 [(nthV l96 0)] h112)) fun l116 h117 =>
p_faddr 0 x108 fun x126 =>
p_load1 x126 h117 fun x127 b128 =>
p_eqv false (.one .iface) x127 .nilIface fun x129 =>
joinV (fun j130 => p_yes x129 (p_faddr 4 x106 fun x133 =>
j130 x133 h117) (j130 undefA h117)) fun x131 h132 =>
joinV (fun j134 => p_yes x129 (p_load1 x131 h132 fun x137 b138 =>
j134 x137 h132) (j134 undefA h132)) fun x135 h136 =>
joinV (fun j139 => p_yes x129 (p_lenL x135 fun x142 =>
j139 x142 h136) (j139 undefA h136)) fun x140 h141 =>
joinV (fun j143 => p_yes x129 (p_eq x140 (vi 1) fun x146 =>
j143 x146 h141) (j143 undefA h141)) fun x144 h145 =>
p_pick x129 x144 vF fun x147 =>
joinV (fun j148 => p_yes x147 (p_faddr 4 x106 fun x151 =>
j148 x151 h145) (j148 undefA h145)) fun x149 h150 =>
joinV (fun j152 => p_yes x147 (p_load1 x149 h150 fun x155 b156 =>
j152 x155 h150) (j152 undefA h150)) fun x153 h154 =>
joinV (fun j157 => p_yes x147 (p_iaddr 12 x153 (vi 0) fun x160 =>
j157 x160 h154) (j157 undefA h154)) fun x158 h159 =>
joinV (fun j161 => p_yes x147 (p_faddr 2 x158 fun x164 =>
j161 x164 h159) (j161 undefA h159)) fun x162 h163 =>
joinV (fun j165 => p_yes x147 (p_load1 x162 h163 fun x168 b169 =>
j165 x168 h163) (j165 undefA h163)) fun x166 h167 =>
joinV (fun j170 => p_yes x147 (p_lenL x166 fun x173 =>
j170 x173 h167) (j170 undefA h167)) fun x171 h172 =>
joinV (fun j174 => p_yes x147 (j174 x12 h172) (j174 undefA h172)) fun x175 h176 =>
joinV (fun j177 => p_yes x147 (p_eq x171 x175 fun x180 =>
j177 x180 h176) (j177 undefA h176)) fun x178 h179 =>
p_pick x147 x178 vF fun x181 =>
kr x181 h179) (.ptr h107.n (nat_lit 0)) (alQ h107 (.cells .own (nat_lit 0) [.nilIface, (vi 0)]))) (.ptr h103.n (nat_lit 0)) (alQ h103 (.cells .own (nat_lit 0) [.nilSlice, (vi 0), (vi 0), .nilSlice, .nilSlice, (vi 0)]))) kp) (.ptr h84.n (nat_lit 0)) (alQ h84 (.cells .own (nat_lit 0) [.nilIface, (vi 0)]))) (.ptr h80.n (nat_lit 0)) (alQ h80 (.cells .own (nat_lit 0) [(vi 0), (vi 0), vS, (vi 0), (vi 0), (vi 0), (vi 0), (.int .u64 (.ofNat 0)), .nilSlice]))) kp) kp) false
noncomputable def h12 : FBody := fun c D k A h kr kp => ifB (Nat.beq (lenV A) 0) (
c 20 [(.str [118, 97, 114, 32, 97, 91, 51, 93, 32, 105, 110, 116, 59, 32, 102, 117, 110, 99, 32, 109, 97, 105, 110, 40, 41, 32, 123, 32, 120, 32, 58, 61, 32, 49, 59, 32, 97, 91, 120, 93, 32, 61, 32, 50, 59, 32, 125])] h (fun x2 h3 =>
p_ext x2 0 fun x4 =>
p_ext x2 1 fun x5 =>
(fun (x6 : AV) (h7 : AHeap) =>
(fun (x8 : AV) (h9 : AHeap) =>
p_store 9 x6 x4 h9 fun h10 b11 =>
p_store 2 x8 x5 h10 fun h12 b13 =>
c 20 [(.str [102, 117, 110, 99, 32, 109, 97, 105, 110, 40, 41, 32, 123, 32, 120, 32, 61, 32, 49, 59, 32, 125])] h12 (fun x16 h17 =>
p_ext x16 0 fun x18 =>
p_ext x16 1 fun x19 =>
(fun (x20 : AV) (h21 : AHeap) =>
(fun (x22 : AV) (h23 : AHeap) =>
p_store 9 x20 x18 h23 fun h24 b25 =>
p_store 2 x22 x19 h24 fun h26 b27 =>
p_faddr 0 x8 fun x28 =>
p_load1 x28 h26 fun x29 b30 =>
p_eqv true (.one .iface) x29 .nilIface fun x31 =>
joinV (fun j32 => p_no x31 (p_faddr 0 x22 fun x35 =>
j32 x35 h26) (j32 undefA h26)) fun x33 h34 =>
joinV (fun j36 => p_no x31 (p_load1 x33 h34 fun x39 b40 =>
j36 x39 h34) (j36 undefA h34)) fun x37 h38 =>
joinV (fun j41 => p_no x31 (p_eqv true (.one .iface) x37 .nilIface fun x44 =>
j41 x44 h38) (j41 undefA h38)) fun x42 h43 =>
p_pick x31 vT x42 fun x45 =>
joinL (fun j46 => p_if x45 (
kr vF h43) (j46 [vF] h43)) fun l47 h48 =>
p_loadN 9 x6 h48 fun x49 b50 =>
c 16 [x49] h48 (fun x53 h54 =>
p_ext x53 0 fun x55 =>
p_ext x53 1 fun x56 =>
(fun (x57 : AV) (h58 : AHeap) =>
(fun (x59 : AV) (h60 : AHeap) =>
p_store 6 x57 x55 h60 fun h61 b62 =>
p_store 2 x59 x56 h61 fun h63 b64 =>
p_loadN 9 x20 h63 fun x65 b66 =>
c 16 [x65] h63 (fun x69 h70 =>
p_ext x69 0 fun x71 =>
p_ext x69 1 fun x72 =>
(fun (x73 : AV) (h74 : AHeap) =>
(fun (x75 : AV) (h76 : AHeap) =>
p_store 6 x73 x71 h76 fun h77 b78 =>
p_store 2 x75 x72 h77 fun h79 b80 =>
p_faddr 0 x59 fun x81 =>
p_load1 x81 h79 fun x82 b83 =>
p_eqv false (.one .iface) x82 .nilIface fun x84 =>
joinV (fun j85 => p_yes x84 (p_faddr 0 x57 fun x88 =>
j85 x88 h79) (j85 undefA h79)) fun x86 h87 =>
joinV (fun j89 => p_yes x84 (p_load1 x86 h87 fun x92 b93 =>
j89 x92 h87) (j89 undefA h87)) fun x90 h91 =>
joinV (fun j94 => p_yes x84 (p_lenL x90 fun x97 =>
j94 x97 h91) (j94 undefA h91)) fun x95 h96 =>
joinV (fun j98 => p_yes x84 (p_eq x95 (vi 3) fun x101 =>
j98 x101 h96) (j98 undefA h96)) fun x99 h100 =>
p_pick x84 x99 vF fun x102 =>
joinV (fun j103 => p_yes x102 (p_faddr 4 x57 fun x106 =>
j103 x106 h100) (j103 undefA h100)) fun x104 h105 =>
joinV (fun j107 => p_yes x102 (p_load1 x104 h105 fun x110 b111 =>
j107 x110 h105) (j107 undefA h105)) fun x108 h109 =>
joinV (fun j112 => p_yes x102 (p_lenL x108 fun x115 =>
j112 x115 h109) (j112 undefA h109)) fun x113 h114 =>
joinV (fun j116 => p_yes x102 (p_eq x113 (vi 1) fun x119 =>
j116 x119 h114) (j116 undefA h114)) fun x117 h118 =>
p_pick x102 x117 vF fun x120 =>
joinV (fun j121 => p_yes x120 (p_faddr 4 x57 fun x124 =>
j121 x124 h118) (j121 undefA h118)) fun x122 h123 =>
joinV (fun j125 => p_yes x120 (p_load1 x122 h123 fun x128 b129 =>
j125 x128 h123) (j125 undefA h123)) fun x126 h127 =>
joinV (fun j130 => p_yes x120 (p_iaddr 12 x126 (vi 0) fun x133 =>
j130 x133 h127) (j130 undefA h127)) fun x131 h132 =>
joinV (fun j134 => p_yes x120 (p_faddr 2 x131 fun x137 =>
j134 x137 h132) (j134 undefA h132)) fun x135 h136 =>
joinV (fun j138 => p_yes x120 (p_load1 x135 h136 fun x141 b142 =>
j138 x141 h136) (j138 undefA h136)) fun x139 h140 =>
joinV (fun j143 => p_yes x120 (p_lenL x139 fun x146 =>
j143 x146 h140) (j143 undefA h140)) fun x144 h145 =>
joinV (fun j147 => p_yes x120 (p_eq x144 (vi 1) fun x150 =>
j147 x150 h145) (j147 undefA h145)) fun x148 h149 =>
p_pick x120 x148 vF fun x151 =>
joinV (fun j152 => p_yes x151 (p_loadN 6 x57 h149 fun x155 b156 =>
j152 x155 h149) (j152 undefA h149)) fun x153 h154 =>
joinV (fun j157 => p_yes x151 (c 35 [x153] h154 (fun x162 h163 =>
j157 x162 h163) kp) (j157 undefA h154)) fun x158 h159 =>
joinV (fun j164 => p_yes x151 (p_eqv false (.one .iface) x158 .nilIface fun x167 =>
j164 x167 h159) (j164 undefA h159)) fun x165 h166 =>
p_pick x151 x165 vF fun x168 =>
joinV (fun j169 => p_yes x168 (p_faddr 0 x75 fun x172 =>
j169 x172 h166) (j169 undefA h166)) fun x170 h171 =>
joinV (fun j173 => p_yes x168 (p_load1 x170 h171 fun x176 b177 =>
j173 x176 h171) (j173 undefA h171)) fun x174 h175 =>
joinV (fun j178 => p_yes x168 (c 18 [x174] h175 (fun x183 h184 =>
j178 x183 h184) kp) (j178 undefA h175)) fun x179 h180 =>
joinV (fun j185 => p_yes x168 (p_eq x179 (vi 4) fun x188 =>
j185 x188 h180) (j185 undefA h180)) fun x186 h187 =>
p_pick x168 x186 vF fun x189 =>
joinV (fun j190 => p_yes x189 (p_faddr 1 x75 fun x193 =>
j190 x193 h187) (j190 undefA h187)) fun x191 h192 =>
joinV (fun j194 => p_yes x189 (p_load1 x191 h192 fun x197 b198 =>
j194 x197 h192) (j194 undefA h192)) fun x195 h196 =>
joinV (fun j199 => p_yes x189 (p_eq x195 (vi 14) fun x202 =>
j199 x202 h196) (j199 undefA h196)) fun x200 h201 =>
p_pick x189 x200 vF fun x203 =>
kr x203 h201) (.ptr h74.n (nat_lit 0)) (alQ h74 (.cells .own (nat_lit 0) [.nilIface, (vi 0)]))) (.ptr h70.n (nat_lit 0)) (alQ h70 (.cells .own (nat_lit 0) [.nilSlice, (vi 0), (vi 0), .nilSlice, .nilSlice, (vi 0)]))) kp) (.ptr h58.n (nat_lit 0)) (alQ h58 (.cells .own (nat_lit 0) [.nilIface, (vi 0)]))) (.ptr h54.n (nat_lit 0)) (alQ h54 (.cells .own (nat_lit 0) [.nilSlice, (vi 0), (vi 0), .nilSlice, .nilSlice, (vi 0)]))) kp) (.ptr h21.n (nat_lit 0)) (alQ h21 (.cells .own (nat_lit 0) [.nilIface, (vi 0)]))) (.ptr h17.n (nat_lit 0)) (alQ h17 (.cells .own (nat_lit 0) [(vi 0), (vi 0), vS, (vi 0), (vi 0), (vi 0), (vi 0), (.int .u64 (.ofNat 0)), .nilSlice]))) kp) (.ptr h7.n (nat_lit 0)) (alQ h7 (.cells .own (nat_lit 0) [.nilIface, (vi 0)]))) (.ptr h3.n (nat_lit 0)) (alQ h3 (.cells .own (nat_lit 0) [(vi 0), (vi 0), vS, (vi 0), (vi 0), (vi 0), (vi 0), (.int .u64 (.ofNat 0)), .nilSlice]))) kp) false
noncomputable def h16 : FBody := fun c D k A h kr kp => ifB (Nat.beq (lenV A) 1) (
p_box (nthV A 0) h fun x0 h1 =>
(fun (x2 : AV) (h3 : AHeap) =>
(fun (x4 : AV) (h5 : AHeap) =>
p_gen (.mkmap) [] h5 fun x6 h7 k8 =>
onFill [(6, 1, x6)] [.nilSlice, (vi 0), (vi 0), .nilSlice, .nilSlice, (vi 0), .nilMap, (vi 0), .nilSlice, .nilSlice, (vi 0)] fun l9 => (fun (x10 : AV) => p_box x10 h7 fun x11 h12 =>
(fun (x13 : AV) (h14 : AHeap) =>
p_store 1 x13 x11 h14 fun h15 b16 =>
(fun (x17 : AV) => c 36 [x17] h15 (fun x20 h21 =>
(fun (x22 : AV) (h23 : AHeap) =>
p_store 2 x22 x20 h23 fun h24 b25 =>
p_faddr 0 x22 fun x26 =>
p_load1 x26 h24 fun x27 b28 =>
p_eqv true (.one .iface) x27 .nilIface fun x29 =>
joinL (fun j30 => p_if x29 (
onFill [] [.nilSlice, (vi 0), (vi 0), .nilSlice, .nilSlice, (vi 0)] fun l33 => (fun (x34 : AV) => p_loadN 2 x22 h24 fun x35 b36 =>
ifB (okAll (.rd b36) h24 h24 [⟨0, .free, h24, h24⟩]) (
p_store 6 x2 x34 h24 fun h37 b38 =>
ifB (okAll (.wr b38) h24 h37 [⟨1, (.rd b36), h24, h24⟩]) (
p_store 2 x4 x35 h37 fun h39 b40 =>
p_loadN 6 x2 h39 fun x41 b42 => p_loadN 2 x4 h39 fun x43 b44 => kr (.tuple [x41, x43]) h39) false) false) (.agg l33)) (j30 [] h24)) fun l31 h32 =>
p_load1 x13 h32 fun x45 b46 =>
asNil (
p_faddr 0 x45 fun x47 =>
p_loadN 6 x47 h32 fun x48 b49 =>
onFill [] [.nilIface, (vi 0)] fun l50 => (fun (x51 : AV) => p_store 6 x2 x48 h32 fun h52 b53 =>
p_store 2 x4 x51 h52 fun h54 b55 =>
p_loadN 6 x2 h54 fun x56 b57 => p_loadN 2 x4 h54 fun x58 b59 => kr (.tuple [x56, x58]) h54) (.agg l50)) x45) (.ptr h21.n (nat_lit 0)) (alQ h21 (.cells .own (nat_lit 0) [.nilIface, (vi 0)]))) kp) (.func (.func 37) [] [x0, x13])) (.ptr h12.n (nat_lit 0)) (alQ h12 (.cells .own (nat_lit 0) [.nilPtr]))) (.agg l9)) (.ptr h3.n (nat_lit 0)) (alQ h3 (.cells .own (nat_lit 0) [.nilIface, (vi 0)]))) (.ptr h1.n (nat_lit 0)) (alQ h1 (.cells .own (nat_lit 0) [.nilSlice, (vi 0), (vi 0), .nilSlice, .nilSlice, (vi 0)]))) false
noncomputable def h18 : FBody := fun c D k A h kr kp => ifB (Nat.beq (lenV A) 1) (
p_eqv false (.one .iface) (nthV A 0) .nilIface fun x0 =>
joinL (fun j1 => p_if x0 (
kr (vi 0) h) (j1 [(vi 0)] h)) fun l2 h3 =>
p_load1 (.ptr 2 0) h3 fun x4 b5 =>
p_load1 (.ptr 3 0) h3 fun x6 b7 =>
p_load1 (.ptr 4 0) h3 fun x8 b9 =>
p_load1 (.ptr 5 0) h3 fun x10 b11 =>
p_load1 (.ptr 6 0) h3 fun x12 b13 =>
p_load1 (.ptr 7 0) h3 fun x14 b15 =>
p_load1 (.ptr 8 0) h3 fun x16 b17 =>
p_load1 (.ptr 1 0) h3 fun x18 b19 =>
p_load1 (.ptr 0 0) h3 fun x20 b21 =>
p_load1 (.ptr 9 0) h3 fun x22 b23 =>
p_load1 (.ptr 10 0) h3 fun x24 b25 =>
p_load1 (.ptr 11 0) h3 fun x26 b27 =>
p_load1 (.ptr 12 0) h3 fun x28 b29 =>
p_load1 (.ptr 13 0) h3 fun x30 b31 =>
p_load1 (.ptr 14 0) h3 fun x32 b33 =>
p_load1 (.ptr 15 0) h3 fun x34 b35 =>
p_load1 (.ptr 16 0) h3 fun x36 b37 =>
onFill [(0, 1, x4), (1, 1, x6), (2, 1, x8), (3, 1, x10), (4, 1, x12), (5, 1, x14), (6, 1, x16), (7, 1, x18), (8, 1, x20), (9, 1, x22), (10, 1, x24), (11, 1, x26), (12, 1, x28), (13, 1, x30), (14, 1, x32), (15, 1, x34), (16, 1, x36)] [.nilIface, .nilIface, .nilIface, .nilIface, .nilIface, .nilIface, .nilIface, .nilIface, .nilIface, .nilIface, .nilIface, .nilIface, .nilIface, .nilIface, .nilIface, .nilIface, .nilIface] fun l38 => ifB (flatsQ l38) ((fun (x39 : AV) (h40 : AHeap) =>
p_lenL x39 fun x41 =>
joinL (fun j42 =>
loopB k (fun r45 l46 h47 =>
p_bin .lss fiLss (nthV l46 1) x41 fun x48 =>
joinL (fun j49 => p_if x48 (
j49 [] h47) (j42 [(nthV l46 0)] h47)) fun l50 h51 =>
joinL (fun j52 =>
p_iaddr 1 x39 (nthV l46 1) fun x55 =>
p_load1 x55 h51 fun x56 b57 =>
c 44 [(nthV A 0), x56] h51 (fun x60 h61 =>
p_if x60 (p_add (nthV l46 1) (vi 1) fun x62 =>
kr x62 h61) (j52 [(nthV l46 0)] h61)) kp) fun l53 h54 =>
p_add (nthV l46 1) (vi 1) fun x63 =>
r45 [(nthV l53 0), x63] h54) [(nthV l2 0), (vi 0)] h40) fun l43 h44 =>
kr (.int .i64 (.negSucc 0)) h44) (.slice h3.n (nat_lit 0) 17 17 true) (alQ h3 (.cells .own 1 l38))) false) false
noncomputable def h20 : FBody := fun c D k A h kr kp => ifB (Nat.beq (lenV A) 1) (
(fun (x0 : AV) (h1 : AHeap) =>
(fun (x2 : AV) (h3 : AHeap) =>
c 47 [(nthV A 0), (.func (.func 48) [] [])] h3 (fun x6 h7 =>
p_ext x6 0 fun x8 =>
p_ext x6 1 fun x9 =>
p_store 9 x0 x8 h7 fun h10 b11 =>
p_store 2 x2 x9 h10 fun h12 b13 =>
p_loadN 9 x0 h12 fun x14 b15 => p_loadN 2 x2 h12 fun x16 b17 => kr (.tuple [x14, x16]) h12) kp) (.ptr h1.n (nat_lit 0)) (alQ h1 (.cells .own (nat_lit 0) [.nilIface, (vi 0)]))) (.ptr h.n (nat_lit 0)) (alQ h (.cells .own (nat_lit 0) [(vi 0), (vi 0), vS, (vi 0), (vi 0), (vi 0), (vi 0), (.int .u64 (.ofNat 0)), .nilSlice]))) false
noncomputable def h26 : FBody := fun c D k A h kr kp => ifB (Nat.beq (lenV A) 1) (
p_box (nthV A 0) h fun x0 h1 =>
(fun (x2 : AV) => c 54 [x2] h1 (fun x5 h6 =>
kr x5 h6) kp) (.func (.func 55) [] [x0])) false
noncomputable def h35 : FBody := fun c D k A h kr kp => ifB (Nat.beq (lenV A) 1) (
p_box (nthV A 0) h fun x0 h1 =>
p_loadN 6 x0 h1 fun x2 b3 =>
onFill [(0, 6, x2)] [.nilSlice, (vi 0), (vi 0), .nilSlice, .nilSlice, (vi 0), vS, (vi 0), .nilSlice, (vi 0), (vi 0), vS, (vi 0), (vi 0), (vi 0), (vi 0), (.int .u64 (.ofNat 0)), .nilSlice] fun l4 => (fun (x5 : AV) => p_box x5 h1 fun x6 h7 =>
(fun (x8 : AV) => c 36 [x8] h7 (fun x11 h12 =>
p_fld x11 0 fun x13 =>
kr x13 h12) kp) (.func (.func 71) [x6] [])) (.agg l4)) false
noncomputable def h36 : FBody := fun c D k A h kr kp => ifB (Nat.beq (lenV A) 1) (
(fun (x0 : AV) (h1 : AHeap) =>
(fun (x2 : AV) => p_fn x2 fun g3 a4 b5 => (fun (l6 : List AV) =>
p_fn (nthV A 0) fun g14 a15 b16 => c g14 (appL a15 (appL [] b16)) h1 (fun x12 h13 =>
onFill [] [.nilIface, (vi 0)] fun l17 => (fun (x18 : AV) => p_store 2 x0 x18 h13 fun h19 b20 =>
D g3 l6 .ret h19 fun h21 =>
p_loadN 2 x0 h21 fun x22 b23 => kr x22 h21) (.agg l17)) (fun p7 h8 => D g3 l6 (.pan p7) h8 fun h9 =>
p_loadN 2 x0 h9 fun x10 b11 => kr x10 h9)) (appL a4 b5)) (.func (.func 72) [] [x0])) (.ptr h.n (nat_lit 0)) (alQ h (.cells .own (nat_lit 0) [.nilIface, (vi 0)]))) false
noncomputable def h37 : FBody := fun c D k A h kr kp => ifB (Nat.beq (lenV A) 2) (
p_loadN 9 (nthV A 0) h fun x0 b1 =>
c 26 [x0] h (fun x6 h7 =>
p_eqv false (.one .iface) x6 .nilIface fun x8 =>
p_load1 (.ptr 0 0) h7 fun x9 b10 =>
ifB (okAll (.rd b10) h7 h7 [⟨1, .big, h, h7⟩, ⟨0, (.rd b1), h, h⟩]) (
c 38 [x8, x9, (vi 0)] h7 (fun x13 h14 =>
p_faddr 8 (nthV A 0) fun x15 =>
p_load1 x15 h14 fun x16 b17 =>
p_lenL x16 fun x18 =>
joinL (fun j19 =>
loopB k (fun r22 l23 h24 =>
p_bin .lss fiLss (nthV l23 0) x18 fun x25 =>
joinL (fun j26 => p_if x25 (
j26 [] h24) (j19 [] h24)) fun l27 h28 =>
joinL (fun j29 =>
p_iaddr 9 x16 (nthV l23 0) fun x32 =>
p_loadN 9 x32 h28 fun x33 b34 =>
(fun (x35 : AV) (h36 : AHeap) =>
p_store 9 x35 x33 h36 fun h37 b38 =>
p_load1 (nthV A 1) h37 fun x39 b40 =>
p_loadN 9 x35 h37 fun x41 b42 =>
c 39 [x39, x41] h37 (fun x45 h46 =>
j29 [] h46) kp) (.ptr h28.n (nat_lit 0)) (alQ h28 (.cells .own (nat_lit 0) [(vi 0), (vi 0), vS, (vi 0), (vi 0), (vi 0), (vi 0), (.int .u64 (.ofNat 0)), .nilSlice]))) fun l30 h31 =>
p_add (nthV l23 0) (vi 1) fun x47 =>
r22 [x47] h31) [(vi 0)] h14) fun l20 h21 =>
p_load1 (nthV A 1) h21 fun x48 b49 =>
asNil (
p_faddr 6 x48 fun x50 =>
p_load1 x50 h21 fun x51 b52 =>
p_gen (.lookup (.one .str) (.agg [(vi 0), (vi 0), (vi 0)]) (.t 29) (.c (.str [109, 97, 105, 110])) true) [(29, x51)] h21 fun x53 h54 k55 =>
p_ext x53 0 fun x56 =>
p_ext x53 1 fun x57 =>
(fun (x58 : AV) (h59 : AHeap) =>
p_store 3 x58 x56 h59 fun h60 b61 =>
joinC (fun j62 => p_yes x57 (p_faddr 0 x58 fun x67 =>
j62 x67 h60 .free h60) (j62 undefA h60 .free h60)) fun x63 h64 k65 h66 =>
joinC (fun j68 => p_yes x57 (p_load1 x63 h64 fun x73 b74 =>
j68 x73 h64 (.rd b74) h64) (j68 undefA h64 .free h64)) fun x69 h70 k71 h72 =>
joinC (fun j75 => p_yes x57 (p_eq x69 (vi 7) fun x80 =>
j75 x80 h70 .free h70) (j75 undefA h70 .free h70)) fun x76 h77 k78 h79 =>
p_pick x57 x76 vF fun x81 =>
joinC (fun j82 => p_yes x81 (p_load1 (nthV A 1) h77 fun x87 b88 =>
j82 x87 h77 (.rd b88) h77) (j82 undefA h77 .free h77)) fun x83 h84 k85 h86 =>
joinC (fun j89 => p_yes x81 (asNil (
j89 x83 h84 .free h84) x83) (j89 undefA h84 .free h84)) fun x90 h91 k92 h93 =>
joinC (fun j94 => p_yes x81 (p_faddr 0 x90 fun x99 =>
j94 x99 h91 .free h91) (j94 undefA h91 .free h91)) fun x95 h96 k97 h98 =>
joinC (fun j100 => p_yes x81 (p_faddr 4 x95 fun x105 =>
j100 x105 h96 .free h96) (j100 undefA h96 .free h96)) fun x101 h102 k103 h104 =>
joinC (fun j106 => p_yes x81 (p_load1 x101 h102 fun x111 b112 =>
j106 x111 h102 (.rd b112) h102) (j106 undefA h102 .free h102)) fun x107 h108 k109 h110 =>
joinC (fun j113 => p_yes x81 (p_faddr 1 x58 fun x118 =>
j113 x118 h108 .free h108) (j113 undefA h108 .free h108)) fun x114 h115 k116 h117 =>
joinC (fun j119 => p_yes x81 (p_load1 x114 h115 fun x124 b125 =>
ifB (okAll (.rd b125) h115 h115 [⟨11, k109, h110, h108⟩, ⟨7, k85, h86, h84⟩]) (
j119 x124 h115 (.rd b125) h115) false) (j119 undefA h115 .free h115)) fun x120 h121 k122 h123 =>
joinC (fun j126 => p_yes x81 (p_iaddr 12 x107 x120 fun x131 =>
j126 x131 h121 .free h121) (j126 undefA h121 .free h121)) fun x127 h128 k129 h130 =>
joinC (fun j132 => p_yes x81 (p_faddr 1 x127 fun x137 =>
j132 x137 h128 .free h128) (j132 undefA h128 .free h128)) fun x133 h134 k135 h136 =>
joinC (fun j138 => p_yes x81 (p_load1 x133 h134 fun x143 b144 =>
j138 x143 h134 (.rd b144) h134) (j138 undefA h134 .free h134)) fun x139 h140 k141 h142 =>
joinC (fun j145 => p_yes x81 (p_eq x139 (vi 0) fun x150 =>
j145 x150 h140 .free h140) (j145 undefA h140 .free h140)) fun x146 h147 k148 h149 =>
p_pick x81 x146 vF fun x151 =>
p_load1 (.ptr 1 0) h147 fun x152 b153 =>
ifB (okAll (.rd b153) h147 h147 [⟨16, k141, h142, h140⟩, ⟨13, k122, h123, h121⟩, ⟨11, k109, h110, h108⟩, ⟨7, k85, h86, h84⟩, ⟨3, k71, h72, h70⟩]) (
c 38 [x151, x152, (vi 0)] h147 (fun x156 h157 =>
p_load1 (nthV A 1) h157 fun x158 b159 =>
p_faddr 1 x58 fun x160 =>
p_load1 x160 h157 fun x161 b162 =>
asNil (
p_faddr 0 x158 fun x163 =>
p_faddr 5 x163 fun x164 =>
p_store 1 x164 x161 h157 fun h165 b166 =>
p_faddr 8 (nthV A 0) fun x167 =>
p_load1 x167 h165 fun x168 b169 =>
p_lenL x168 fun x170 =>
loopB k (fun r171 l172 h173 =>
p_bin .lss fiLss (nthV l172 1) x170 fun x174 =>
joinL (fun j175 => p_if x174 (
j175 [] h173) (kr undefA h173)) fun l176 h177 =>
joinL (fun j178 =>
p_iaddr 9 x168 (nthV l172 1) fun x181 =>
p_loadN 9 x181 h177 fun x182 b183 =>
(fun (x184 : AV) (h185 : AHeap) =>
p_store 9 x184 x182 h185 fun h186 b187 =>
p_faddr 0 x184 fun x188 =>
p_load1 x188 h186 fun x189 b190 =>
p_eq x189 (vi 7) fun x191 =>
p_if x191 (p_load1 (nthV A 1) h186 fun x192 b193 =>
p_loadN 9 x184 h186 fun x194 b195 =>
c 40 [x192, (nthV l172 0), x194] h186 (fun x198 h199 =>
p_add (nthV l172 0) (vi 1) fun x200 =>
j178 [x200] h199) kp) (j178 [(nthV l172 0)] h186)) (.ptr h177.n (nat_lit 0)) (alQ h177 (.cells .own (nat_lit 0) [(vi 0), (vi 0), vS, (vi 0), (vi 0), (vi 0), (vi 0), (.int .u64 (.ofNat 0)), .nilSlice]))) fun l179 h180 =>
p_add (nthV l172 1) (vi 1) fun x201 =>
r171 [(nthV l179 0), x201] h180) [(vi 0), (vi 0)] h165) x158) kp) false) (.ptr h54.n (nat_lit 0)) (alQ h54 (.cells .own (nat_lit 0) [(vi 0), (vi 0), (vi 0)]))) x48) kp) false) (fun p2 h3 => p_load1 (.ptr 0 0) h3 fun x4 b5 =>
ifB (okAll (.rd b5) h3 h3 [⟨1, .big, h, h3⟩, ⟨0, (.rd b1), h, h⟩]) (
kp p2 h3) false)) false
noncomputable def h38 : FBody := fun c D k A h kr kp => ifB (Nat.beq (lenV A) 3) (
p_not (nthV A 0) fun x0 =>
p_if x0 (onFill [(0, 1, (nthV A 1)), (1, 1, (nthV A 2))] [.nilIface, (vi 0)] fun l1 => (fun (x2 : AV) => onFill [(0, 2, x2)] [.nilIface, (vi 0)] fun l3 => (fun (x4 : AV) => (fun (x5 : AV) => asIf (fun t6 x7 => kp (.iface t6 x7) h) x5) (.iface 124 x4)) (.agg l3)) (.agg l1)) (kr undefA h)) false
noncomputable def h39 : FBody := fun c D k A h kr kp => ifB (Nat.beq (lenV A) 2) (
p_box (nthV A 1) h fun x0 h1 =>
(fun (x2 : AV) (h3 : AHeap) =>
asNil (
p_faddr 6 (nthV A 0) fun x4 =>
p_load1 x4 h3 fun x5 b6 =>
ifB (okAll (.rd b6) h3 h3 [⟨10, .new, h1, h3⟩]) (
p_faddr 2 x0 fun x7 =>
p_load1 x7 h3 fun x8 b9 =>
ifB (okAll (.rd b9) h3 h3 [⟨3, (.rd b6), h3, h3⟩, ⟨10, .new, h1, h3⟩]) (
p_gen (.lookup (.one .str) (.agg [(vi 0), (vi 0), (vi 0)]) (.t 11) (.t 13) true) [(11, x5), (13, x8)] h3 fun x10 h11 k12 =>
ifB (okAll k12 h3 h11 [⟨10, .new, h1, h3⟩]) (
p_ext x10 0 fun x13 =>
p_ext x10 1 fun x14 =>
p_store 3 x2 x13 h11 fun h15 b16 =>
p_not x14 fun x17 =>
p_load1 (.ptr 5 0) h15 fun x18 b19 =>
p_faddr 1 x0 fun x20 =>
p_load1 x20 h15 fun x21 b22 =>
c 38 [x17, x18, x21] h15 (fun x25 h26 =>
p_faddr 0 x0 fun x27 =>
p_load1 x27 h26 fun x28 b29 =>
onFill [(0, 1, x28), (2, 1, (vi 1))] [(vi 0), (vi 0), (vi 0)] fun l30 => (fun (x31 : AV) => (fun (x32 : AV) (h33 : AHeap) =>
p_store 3 x32 x31 h33 fun h34 b35 =>
p_faddr 0 x0 fun x36 =>
p_load1 x36 h34 fun x37 b38 =>
p_bin .neq fiNeq x37 (vi 7) fun x39 =>
joinL (fun j40 => p_if x39 (
asNil (
p_faddr 7 (nthV A 0) fun x43 =>
p_load1 x43 h34 fun x44 b45 =>
p_add x44 (vi 1) fun x46 =>
asNil (
p_faddr 7 (nthV A 0) fun x47 =>
p_store 1 x47 x46 h34 fun h48 b49 =>
j40 [] h48) (nthV A 0)) (nthV A 0)) (j40 [] h34)) fun l41 h42 =>
p_faddr 0 x0 fun x50 =>
p_load1 x50 h42 fun x51 b52 =>
joinL (fun j53 =>
p_eq x51 (vi 3) fun x56 =>
joinL (fun j57 => p_if x56 (
j57 [x56] h42) (p_eq x51 (vi 2) fun x60 =>
j57 [x60] h42)) fun l58 h59 =>
p_if (nthV l58 0) (p_faddr 0 x0 fun x61 =>
p_load1 x61 h59 fun x62 b63 =>
p_eq x62 (vi 3) fun x64 =>
joinL (fun j65 => p_if x64 (
p_faddr 4 x0 fun x68 =>
p_load1 x68 h59 fun x69 b70 =>
p_bin .geq fiGeq x69 (vi 1) fun x71 =>
joinV (fun j72 => p_yes x71 (p_faddr 4 x0 fun x75 =>
j72 x75 h59) (j72 undefA h59)) fun x73 h74 =>
joinV (fun j76 => p_yes x71 (p_load1 x73 h74 fun x79 b80 =>
j76 x79 h74) (j76 undefA h74)) fun x77 h78 =>
joinV (fun j81 => p_yes x71 (p_bin .leq fiLeq x77 (vi 64) fun x84 =>
j81 x84 h78) (j81 undefA h78)) fun x82 h83 =>
p_pick x71 x82 vF fun x85 =>
p_load1 (.ptr 2 0) h83 fun x86 b87 =>
p_faddr 1 x0 fun x88 =>
p_load1 x88 h83 fun x89 b90 =>
c 38 [x85, x86, x89] h83 (fun x93 h94 =>
p_faddr 4 x0 fun x95 =>
p_load1 x95 h94 fun x96 b97 =>
p_faddr 2 x32 fun x98 =>
p_store 1 x98 x96 h94 fun h99 b100 =>
j65 [] h99) kp) (j65 [] h59)) fun l66 h67 =>
asNil (
p_faddr 0 (nthV A 0) fun x101 =>
p_faddr 0 x101 fun x102 =>
p_load1 x102 h67 fun x103 b104 =>
p_lenL x103 fun x105 =>
p_faddr 1 x32 fun x106 =>
p_store 1 x106 x105 h67 fun h107 b108 =>
asNil (
p_faddr 0 (nthV A 0) fun x109 =>
p_faddr 0 x109 fun x110 =>
p_load1 x110 h107 fun x111 b112 =>
p_faddr 3 x0 fun x113 =>
p_load1 x113 h107 fun x114 b115 =>
ifB (okAll (.rd b115) h107 h107 [⟨5, (.rd b112), h107, h107⟩]) (
onFill [(0, 1, x114)] [(vi 0)] fun l116 => ifB (flatsQ l116) ((fun (x117 : AV) (h118 : AHeap) =>
ifB (okAll .new h107 h118 [⟨5, (.rd b112), h107, h107⟩]) (
p_faddr 2 x32 fun x119 =>
p_load1 x119 h118 fun x120 b121 =>
ifB (okAll (.rd b121) h118 h118 [⟨8, .new, h107, h118⟩, ⟨7, (.rd b115), h107, h107⟩, ⟨5, (.rd b112), h107, h107⟩]) (
c 73 [x117, x120] h118 (fun x124 h125 =>
ifB (okAll .big h118 h125 [⟨5, (.rd b112), h107, h107⟩]) (
p_append 1 8 x111 x124 h125 fun x126 h127 =>
asNil (
p_faddr 0 (nthV A 0) fun x128 =>
p_faddr 0 x128 fun x129 =>
p_store 1 x129 x126 h127 fun h130 b131 =>
j53 [] h130) (nthV A 0)) false) (fun p122 h123 => ifB (okAll .big h118 h123 [⟨5, (.rd b112), h107, h107⟩]) (
kp p122 h123) false)) false) false) (.slice h107.n (nat_lit 0) 1 1 true) (alQ h107 (.cells .own 1 l116))) false) false) (nthV A 0)) (nthV A 0)) (p_eq x51 (vi 4) fun x132 =>
p_if x132 (asNil (
p_faddr 0 (nthV A 0) fun x133 =>
p_faddr 1 x133 fun x134 =>
p_load1 x134 h59 fun x135 b136 =>
p_faddr 1 x32 fun x137 =>
p_store 1 x137 x135 h59 fun h138 b139 =>
asNil (
p_faddr 0 (nthV A 0) fun x140 =>
p_faddr 1 x140 fun x141 =>
p_load1 x141 h138 fun x142 b143 =>
p_add x142 (vi 1) fun x144 =>
asNil (
p_faddr 0 (nthV A 0) fun x145 =>
p_faddr 1 x145 fun x146 =>
p_store 1 x146 x144 h138 fun h147 b148 =>
j53 [] h147) (nthV A 0)) (nthV A 0)) (nthV A 0)) (p_eq x51 (vi 6) fun x149 =>
p_if x149 (asNil (
p_faddr 0 (nthV A 0) fun x150 =>
p_faddr 2 x150 fun x151 =>
p_load1 x151 h59 fun x152 b153 =>
p_faddr 1 x32 fun x154 =>
p_store 1 x154 x152 h59 fun h155 b156 =>
asNil (
p_faddr 0 (nthV A 0) fun x157 =>
p_faddr 2 x157 fun x158 =>
p_load1 x158 h155 fun x159 b160 =>
p_add x159 (vi 1) fun x161 =>
asNil (
p_faddr 0 (nthV A 0) fun x162 =>
p_faddr 2 x162 fun x163 =>
p_store 1 x163 x161 h155 fun h164 b165 =>
j53 [] h164) (nthV A 0)) (nthV A 0)) (nthV A 0)) (p_eq x51 (vi 5) fun x166 =>
p_if x166 (p_faddr 4 x0 fun x167 =>
p_load1 x167 h59 fun x168 b169 =>
p_bin .leq fiLeq x168 (vi 8) fun x170 =>
p_load1 (.ptr 2 0) h59 fun x171 b172 =>
p_faddr 1 x0 fun x173 =>
p_load1 x173 h59 fun x174 b175 =>
c 38 [x170, x171, x174] h59 (fun x178 h179 =>
asNil (
p_faddr 0 (nthV A 0) fun x180 =>
p_faddr 3 x180 fun x181 =>
p_load1 x181 h179 fun x182 b183 =>
p_lenL x182 fun x184 =>
p_faddr 1 x32 fun x185 =>
p_store 1 x185 x184 h179 fun h186 b187 =>
asNil (
p_faddr 0 (nthV A 0) fun x188 =>
p_faddr 3 x188 fun x189 =>
p_load1 x189 h186 fun x190 b191 =>
p_faddr 3 x0 fun x192 =>
p_load1 x192 h186 fun x193 b194 =>
ifB (okAll (.rd b194) h186 h186 [⟨5, (.rd b191), h186, h186⟩]) (
p_faddr 4 x0 fun x195 =>
p_load1 x195 h186 fun x196 b197 =>
ifB (okAll (.rd b197) h186 h186 [⟨7, (.rd b194), h186, h186⟩, ⟨5, (.rd b191), h186, h186⟩]) (
onFill [(0, 1, x193), (1, 1, x196)] [(vi 0), (vi 0)] fun l198 => (fun (x199 : AV) => ifB (okAll .free h186 h186 [⟨5, (.rd b191), h186, h186⟩]) (
onFill [(0, 2, x199)] [(vi 0), (vi 0)] fun l200 => ifB (flatsQ l200) ((fun (x201 : AV) (h202 : AHeap) =>
ifB (okAll .new h186 h202 [⟨5, (.rd b191), h186, h186⟩]) (
p_append 2 16 x190 x201 h202 fun x203 h204 =>
asNil (
p_faddr 0 (nthV A 0) fun x205 =>
p_faddr 3 x205 fun x206 =>
p_store 1 x206 x203 h204 fun h207 b208 =>
j53 [] h207) (nthV A 0)) false) (.slice h186.n (nat_lit 0) 1 1 true) (alQ h186 (.cells .own 2 l200))) false) false) (.agg l198)) false) false) (nthV A 0)) (nthV A 0)) kp) (asNil (
p_faddr 0 (nthV A 0) fun x209 =>
p_faddr 4 x209 fun x210 =>
p_load1 x210 h59 fun x211 b212 =>
p_lenL x211 fun x213 =>
p_faddr 1 x32 fun x214 =>
p_store 1 x214 x213 h59 fun h215 b216 =>
asNil (
p_faddr 0 (nthV A 0) fun x217 =>
p_faddr 4 x217 fun x218 =>
p_load1 x218 h215 fun x219 b220 =>
p_faddr 2 x0 fun x221 =>
p_load1 x221 h215 fun x222 b223 =>
ifB (okAll (.rd b223) h215 h215 [⟨5, (.rd b220), h215, h215⟩]) (
p_faddr 4 x0 fun x224 =>
p_load1 x224 h215 fun x225 b226 =>
ifB (okAll (.rd b226) h215 h215 [⟨7, (.rd b223), h215, h215⟩, ⟨5, (.rd b220), h215, h215⟩]) (
onFill [(0, 1, x222), (1, 1, x225)] [vS, (vi 0), .nilSlice, (vi 0), (vi 0), vS, (vi 0), (vi 0), (vi 0), (vi 0), (.int .u64 (.ofNat 0)), .nilSlice] fun l227 => (fun (x228 : AV) => ifB (okAll .free h215 h215 [⟨5, (.rd b220), h215, h215⟩]) (
onFill [(0, 12, x228)] [vS, (vi 0), .nilSlice, (vi 0), (vi 0), vS, (vi 0), (vi 0), (vi 0), (vi 0), (.int .u64 (.ofNat 0)), .nilSlice] fun l229 => ifB (flatsQ l229) ((fun (x230 : AV) (h231 : AHeap) =>
ifB (okAll .new h215 h231 [⟨5, (.rd b220), h215, h215⟩]) (
p_append 12 144 x219 x230 h231 fun x232 h233 =>
asNil (
p_faddr 0 (nthV A 0) fun x234 =>
p_faddr 4 x234 fun x235 =>
p_store 1 x235 x232 h233 fun h236 b237 =>
p_faddr 4 x0 fun x238 =>
p_load1 x238 h236 fun x239 b240 =>
p_bin .leq fiLeq x239 (vi 4) fun x241 =>
p_load1 (.ptr 7 0) h236 fun x242 b243 =>
p_faddr 1 x0 fun x244 =>
p_load1 x244 h236 fun x245 b246 =>
c 38 [x241, x242, x245] h236 (fun x249 h250 =>
j53 [] h250) kp) (nthV A 0)) false) (.slice h215.n (nat_lit 0) 1 1 true) (alQ h215 (.cells .own 12 l229))) false) false) (.agg l227)) false) false) (nthV A 0)) (nthV A 0)))))) fun l54 h55 =>
asNil (
p_faddr 7 (nthV A 0) fun x251 =>
p_load1 x251 h55 fun x252 b253 =>
p_bin .leq fiLeq x252 (vi 32) fun x254 =>
joinC (fun j255 => p_yes x254 (j255 (nthV A 0) h55 .free h55) (j255 undefA h55 .free h55)) fun x256 h257 k258 h259 =>
joinC (fun j260 => p_yes x254 (asNil (
j260 x256 h257 .free h257) x256) (j260 undefA h257 .free h257)) fun x261 h262 k263 h264 =>
joinC (fun j265 => p_yes x254 (p_faddr 0 x261 fun x270 =>
j265 x270 h262 .free h262) (j265 undefA h262 .free h262)) fun x266 h267 k268 h269 =>
joinC (fun j271 => p_yes x254 (p_faddr 0 x266 fun x276 =>
j271 x276 h267 .free h267) (j271 undefA h267 .free h267)) fun x272 h273 k274 h275 =>
joinC (fun j277 => p_yes x254 (p_load1 x272 h273 fun x282 b283 =>
j277 x282 h273 (.rd b283) h273) (j277 undefA h273 .free h273)) fun x278 h279 k280 h281 =>
joinC (fun j284 => p_yes x254 (p_lenL x278 fun x289 =>
j284 x289 h279 .free h279) (j284 undefA h279 .free h279)) fun x285 h286 k287 h288 =>
joinC (fun j290 => p_yes x254 (p_bin .leq fiLeq x285 (vi 128) fun x295 =>
j290 x295 h286 .free h286) (j290 undefA h286 .free h286)) fun x291 h292 k293 h294 =>
p_pick x254 x291 vF fun x296 =>
joinC (fun j297 => p_yes x296 (j297 (nthV A 0) h292 .free h292) (j297 undefA h292 .free h292)) fun x298 h299 k300 h301 =>
joinC (fun j302 => p_yes x296 (asNil (
j302 x298 h299 .free h299) x298) (j302 undefA h299 .free h299)) fun x303 h304 k305 h306 =>
joinC (fun j307 => p_yes x296 (p_faddr 0 x303 fun x312 =>
j307 x312 h304 .free h304) (j307 undefA h304 .free h304)) fun x308 h309 k310 h311 =>
joinC (fun j313 => p_yes x296 (p_faddr 4 x308 fun x318 =>
j313 x318 h309 .free h309) (j313 undefA h309 .free h309)) fun x314 h315 k316 h317 =>
joinC (fun j319 => p_yes x296 (p_load1 x314 h315 fun x324 b325 =>
j319 x324 h315 (.rd b325) h315) (j319 undefA h315 .free h315)) fun x320 h321 k322 h323 =>
joinC (fun j326 => p_yes x296 (p_lenL x320 fun x331 =>
j326 x331 h321 .free h321) (j326 undefA h321 .free h321)) fun x327 h328 k329 h330 =>
joinC (fun j332 => p_yes x296 (p_bin .leq fiLeq x327 (vi 16) fun x337 =>
j332 x337 h328 .free h328) (j332 undefA h328 .free h328)) fun x333 h334 k335 h336 =>
p_pick x296 x333 vF fun x338 =>
p_load1 (.ptr 7 0) h334 fun x339 b340 =>
ifB (okAll (.rd b340) h334 h334 [⟨19, k322, h323, h321⟩, ⟨10, k280, h281, h279⟩, ⟨3, (.rd b253), h55, h55⟩]) (
p_faddr 1 x0 fun x341 =>
p_load1 x341 h334 fun x342 b343 =>
ifB (okAll (.rd b343) h334 h334 [⟨23, (.rd b340), h334, h334⟩, ⟨19, k322, h323, h321⟩, ⟨10, k280, h281, h279⟩, ⟨3, (.rd b253), h55, h55⟩]) (
c 38 [x338, x339, x342] h334 (fun x346 h347 =>
asNil (
p_faddr 6 (nthV A 0) fun x348 =>
p_load1 x348 h347 fun x349 b350 =>
p_faddr 2 x0 fun x351 =>
p_load1 x351 h347 fun x352 b353 =>
ifB (okAll (.rd b353) h347 h347 [⟨3, (.rd b350), h347, h347⟩]) (
p_loadN 3 x32 h347 fun x354 b355 =>
ifB (okAll (.rd b355) h347 h347 [⟨5, (.rd b353), h347, h347⟩, ⟨3, (.rd b350), h347, h347⟩]) (
p_gen (.mapupd (.one .str) (.t 208) (.t 210) (.t 211)) [(208, x349), (210, x352), (211, x354)] h347 fun x356 h357 k358 =>
kr undefA h357) false) false) (nthV A 0)) kp) false) false) (nthV A 0)) (.ptr h26.n (nat_lit 0)) (alQ h26 (.cells .own (nat_lit 0) [(vi 0), (vi 0), (vi 0)]))) (.agg l30)) kp) false) false) false) (nthV A 0)) (.ptr h1.n (nat_lit 0)) (alQ h1 (.cells .own (nat_lit 0) [(vi 0), (vi 0), (vi 0)]))) false
noncomputable def h40 : FBody := fun c D k A h kr kp => ifB (Nat.beq (lenV A) 3) (
p_box (nthV A 2) h fun x0 h1 =>
asNil (
p_faddr 8 (nthV A 0) fun x2 =>
p_store 1 x2 .nilSlice h1 fun h3 b4 =>
asNil (
p_faddr 9 (nthV A 0) fun x5 =>
p_store 1 x5 .nilSlice h3 fun h6 b7 =>
asNil (
p_faddr 10 (nthV A 0) fun x8 =>
p_store 1 x8 (vi 0) h6 fun h9 b10 =>
asNil (
p_faddr 0 (nthV A 0) fun x11 =>
p_faddr 4 x11 fun x12 =>
p_load1 x12 h9 fun x13 b14 =>
p_iaddr 12 x13 (nthV A 1) fun x15 =>
p_faddr 8 x0 fun x16 =>
p_load1 x16 h9 fun x17 b18 =>
p_faddr 4 x0 fun x19 =>
p_load1 x19 h9 fun x20 b21 =>
p_gen (.slc 9 (.t 26) none (some (.t 28)) none) [(26, x17), (28, x20)] h9 fun x22 h23 k24 =>
p_lenL x22 fun x25 =>
joinL (fun j26 =>
loopB k (fun r29 l30 h31 =>
p_bin .lss fiLss (nthV l30 0) x25 fun x32 =>
joinL (fun j33 => p_if x32 (
j33 [] h31) (j26 [] h31)) fun l34 h35 =>
joinL (fun j36 =>
p_iaddr 9 x22 (nthV l30 0) fun x39 =>
p_loadN 9 x39 h35 fun x40 b41 =>
(fun (x42 : AV) (h43 : AHeap) =>
p_store 9 x42 x40 h43 fun h44 b45 =>
p_faddr 2 x42 fun x46 =>
p_load1 x46 h44 fun x47 b48 =>
p_faddr 1 x42 fun x49 =>
p_load1 x49 h44 fun x50 b51 =>
c 74 [(nthV A 0), x47, x50] h44 (fun x54 h55 =>
asNil (
p_faddr 2 x15 fun x56 =>
p_load1 x56 h55 fun x57 b58 =>
p_faddr 3 x42 fun x59 =>
p_load1 x59 h55 fun x60 b61 =>
ifB (okAll (.rd b61) h55 h55 [⟨4, (.rd b58), h55, h55⟩]) (
onFill [(0, 1, x60)] [(vi 0)] fun l62 => ifB (flatsQ l62) ((fun (x63 : AV) (h64 : AHeap) =>
ifB (okAll .new h55 h64 [⟨4, (.rd b58), h55, h55⟩]) (
p_append 1 8 x57 x63 h64 fun x65 h66 =>
asNil (
p_faddr 2 x15 fun x67 =>
p_store 1 x67 x65 h66 fun h68 b69 =>
j36 [] h68) x15) false) (.slice h55.n (nat_lit 0) 1 1 true) (alQ h55 (.cells .own 1 l62))) false) false) x15) kp) (.ptr h35.n (nat_lit 0)) (alQ h35 (.cells .own (nat_lit 0) [(vi 0), (vi 0), vS, (vi 0), (vi 0), (vi 0), (vi 0), (.int .u64 (.ofNat 0)), .nilSlice]))) fun l37 h38 =>
p_add (nthV l30 0) (vi 1) fun x70 =>
r29 [x70] h38) [(vi 0)] h23) fun l27 h28 =>
p_faddr 8 x0 fun x71 =>
p_load1 x71 h28 fun x72 b73 =>
p_faddr 4 x0 fun x74 =>
p_load1 x74 h28 fun x75 b76 =>
p_iaddr 9 x72 x75 fun x77 =>
p_loadN 9 x77 h28 fun x78 b79 =>
c 75 [(nthV A 0), x78] h28 (fun x82 h83 =>
asNil (
p_faddr 3 x15 fun x84 =>
p_store 9 x84 x82 h83 fun h85 b86 =>
asNil (
p_faddr 2 x15 fun x87 =>
p_load1 x87 h85 fun x88 b89 =>
asNil (
p_faddr 10 (nthV A 0) fun x90 =>
p_load1 x90 h85 fun x91 b92 =>
ifB (okAll (.rd b92) h85 h85 [⟨4, (.rd b89), h85, h85⟩]) (
p_faddr 4 x0 fun x93 =>
p_load1 x93 h85 fun x94 b95 =>
ifB (okAll (.rd b95) h85 h85 [⟨8, (.rd b92), h85, h85⟩, ⟨4, (.rd b89), h85, h85⟩]) (
p_bin .sub fiSub x91 x94 fun x96 =>
p_gen (.appendz 1 8 [(vi 0)] (.t 68) (.t 75)) [(68, x88), (75, x96)] h85 fun x97 h98 k99 =>
asNil (
p_faddr 2 x15 fun x100 =>
p_store 1 x100 x97 h98 fun h101 b102 =>
kr undefA h101) x15) false) false) (nthV A 0)) x15) x15) kp) (nthV A 0)) (nthV A 0)) (nthV A 0)) (nthV A 0)) false
noncomputable def h47 : FBody := fun c D k A h kr kp => ifB (Nat.beq (lenV A) 2) (
(fun (x0 : AV) (h1 : AHeap) =>
(fun (x2 : AV) (h3 : AHeap) =>
c 81 [(nthV A 0)] h3 (fun x6 h7 =>
p_ext x6 0 fun x8 =>
p_ext x6 1 fun x9 =>
p_store 2 x2 x9 h7 fun h10 b11 =>
p_faddr 0 x2 fun x12 =>
p_load1 x12 h10 fun x13 b14 =>
p_eqv true (.one .iface) x13 .nilIface fun x15 =>
joinL (fun j16 => p_if x15 (
p_loadN 9 x0 h10 fun x19 b20 =>
p_loadN 2 x2 h10 fun x21 b22 =>
ifB (okAll (.rd b22) h10 h10 [⟨0, (.rd b20), h10, h10⟩]) (
p_store 9 x0 x19 h10 fun h23 b24 =>
ifB (okAll (.wr b24) h10 h23 [⟨1, (.rd b22), h10, h10⟩]) (
p_store 2 x2 x21 h23 fun h25 b26 =>
p_loadN 9 x0 h25 fun x27 b28 => p_loadN 2 x2 h25 fun x29 b30 => kr (.tuple [x27, x29]) h25) false) false) (j16 [] h10)) fun l17 h18 =>
(fun (x31 : AV) => p_fn x31 fun g32 a33 b34 => (fun (l35 : List AV) =>
p_lenS (nthV A 0) fun x36 =>
onFill [(0, 1, x8), (1, 1, x36)] [.nilSlice, (vi 0), (vi 0)] fun l37 => (fun (x38 : AV) => p_box x38 h18 fun x39 h40 =>
p_fn (nthV A 1) fun g50 a51 b52 => c g50 (appL a51 (appL [x39] b52)) h40 (fun x48 h49 =>
p_store 9 x0 x48 h49 fun h53 b54 =>
asNil (
p_faddr 0 x39 fun x55 =>
p_load1 x55 h53 fun x56 b57 =>
p_lenL x56 fun x58 =>
p_bin .gtr fiGtr x58 (vi 0) fun x59 =>
joinL (fun j60 => p_if x59 (
c 83 [x39] h53 (fun x70 h71 =>
j60 [] h71) (fun p63 h64 => D g32 l35 (.pan p63) h64 fun h65 =>
p_loadN 9 x0 h65 fun x66 b67 => p_loadN 2 x2 h65 fun x68 b69 => kr (.tuple [x66, x68]) h65)) (j60 [] h53)) fun l61 h62 =>
p_loadN 9 x0 h62 fun x72 b73 =>
onFill [] [.nilIface, (vi 0)] fun l74 => (fun (x75 : AV) => p_store 9 x0 x72 h62 fun h76 b77 =>
p_store 2 x2 x75 h76 fun h78 b79 =>
D g32 l35 .ret h78 fun h80 =>
p_loadN 9 x0 h80 fun x81 b82 => p_loadN 2 x2 h80 fun x83 b84 => kr (.tuple [x81, x83]) h80) (.agg l74)) x39) (fun p41 h42 => D g32 l35 (.pan p41) h42 fun h43 =>
p_loadN 9 x0 h43 fun x44 b45 => p_loadN 2 x2 h43 fun x46 b47 => kr (.tuple [x44, x46]) h43)) (.agg l37)) (appL a33 b34)) (.func (.func 82) [] [x0, x2])) kp) (.ptr h1.n (nat_lit 0)) (alQ h1 (.cells .own (nat_lit 0) [.nilIface, (vi 0)]))) (.ptr h.n (nat_lit 0)) (alQ h (.cells .own (nat_lit 0) [(vi 0), (vi 0), vS, (vi 0), (vi 0), (vi 0), (vi 0), (.int .u64 (.ofNat 0)), .nilSlice]))) false
noncomputable def h48 : FBody := fun c D k A h kr kp => ifB (Nat.beq (lenV A) 1) (
(fun (x0 : AV) (h1 : AHeap) =>
c 49 [(nthV A 0)] h1 (fun x4 h5 =>
p_fld x4 4 fun x6 =>
onFill [(0, 1, (vi 1)), (1, 1, x6)] [(vi 0), (vi 0), vS, (vi 0), (vi 0), (vi 0), (vi 0), (.int .u64 (.ofNat 0)), .nilSlice] fun l7 => (fun (x8 : AV) => (fun (x9 : AV) (h10 : AHeap) =>
p_store 9 x9 x8 h10 fun h11 b12 =>
joinL (fun j13 =>
loopB k (fun r16 l17 h18 =>
asNil (
p_faddr 0 (nthV A 0) fun x19 =>
p_load1 x19 h18 fun x20 b21 =>
p_lenL x20 fun x22 =>
p_bin .gtr fiGtr x22 (vi 0) fun x23 =>
joinL (fun j24 => p_if x23 (
j24 [] h18) (j13 [] h18)) fun l25 h26 =>
p_faddr 8 x9 fun x27 =>
p_load1 x27 h26 fun x28 b29 =>
c 50 [(nthV A 0)] h26 (fun x32 h33 =>
ifB (okAll .big h26 h33 [⟨1, (.rd b29), h26, h26⟩]) (
onFill [(0, 9, x32)] [(vi 0), (vi 0), vS, (vi 0), (vi 0), (vi 0), (vi 0), (.int .u64 (.ofNat 0)), .nilSlice] fun l34 => ifB (flatsQ l34) ((fun (x35 : AV) (h36 : AHeap) =>
ifB (okAll .new h33 h36 [⟨1, (.rd b29), h26, h26⟩]) (
p_append 9 96 x28 x35 h36 fun x37 h38 =>
p_faddr 8 x9 fun x39 =>
p_store 1 x39 x37 h38 fun h40 b41 =>
r16 [] h40) false) (.slice h33.n (nat_lit 0) 1 1 true) (alQ h33 (.cells .own 9 l34))) false) false) (fun p30 h31 => ifB (okAll .big h26 h31 [⟨1, (.rd b29), h26, h26⟩]) (
kp p30 h31) false)) (nthV A 0)) [] h11) fun l14 h15 =>
p_loadN 9 x9 h15 fun x42 b43 =>
p_store 9 x0 x42 h15 fun h44 b45 =>
p_loadN 9 x0 h44 fun x46 b47 => kr x46 h44) (.ptr h5.n (nat_lit 0)) (alQ h5 (.cells .own (nat_lit 0) [(vi 0), (vi 0), vS, (vi 0), (vi 0), (vi 0), (vi 0), (.int .u64 (.ofNat 0)), .nilSlice]))) (.agg l7)) kp) (.ptr h.n (nat_lit 0)) (alQ h (.cells .own (nat_lit 0) [(vi 0), (vi 0), vS, (vi 0), (vi 0), (vi 0), (vi 0), (.int .u64 (.ofNat 0)), .nilSlice]))) false
noncomputable def h49 : FBody := fun c D k A h kr kp => ifB (Nat.beq (lenV A) 1) (
(fun (x0 : AV) (h1 : AHeap) =>
asNil (
p_faddr 0 (nthV A 0) fun x2 =>
p_load1 x2 h1 fun x3 b4 =>
p_lenL x3 fun x5 =>
p_eq x5 (vi 0) fun x6 =>
joinL (fun j7 => p_if x6 (
asNil (
p_faddr 1 (nthV A 0) fun x10 =>
p_load1 x10 h1 fun x11 b12 =>
onFill [(4, 1, x11)] [(vi 0), vS, (vi 0), (.int .u64 (.ofNat 0)), (vi 0)] fun l13 => (fun (x14 : AV) => p_store 5 x0 x14 h1 fun h15 b16 =>
p_loadN 5 x0 h15 fun x17 b18 => kr x17 h15) (.agg l13)) (nthV A 0)) (j7 [] h1)) fun l8 h9 =>
asNil (
p_faddr 0 (nthV A 0) fun x19 =>
p_load1 x19 h9 fun x20 b21 =>
p_iaddr 5 x20 (vi 0) fun x22 =>
p_loadN 5 x22 h9 fun x23 b24 =>
p_store 5 x0 x23 h9 fun h25 b26 =>
p_loadN 5 x0 h25 fun x27 b28 => kr x27 h25) (nthV A 0)) (nthV A 0)) (.ptr h.n (nat_lit 0)) (alQ h (.cells .own (nat_lit 0) [(vi 0), vS, (vi 0), (.int .u64 (.ofNat 0)), (vi 0)]))) false
noncomputable def h50 : FBody := fun c D k A h kr kp => ifB (Nat.beq (lenV A) 1) (
(fun (x0 : AV) (h1 : AHeap) =>
c 49 [(nthV A 0)] h1 (fun x4 h5 =>
(fun (x6 : AV) (h7 : AHeap) =>
p_store 5 x6 x4 h7 fun h8 b9 =>
onFill [(0, 1, (.str [118, 97, 114])), (1, 1, (.str [109, 117, 116, 101, 120])), (2, 1, (.str [99, 104, 97, 110])), (3, 1, (.str [97, 116, 111, 109, 105, 99])), (4, 1, (.str [102, 117, 110, 99]))] [vS, vS, vS, vS, vS] fun l10 => ifB (flatsQ l10) ((fun (x11 : AV) (h12 : AHeap) =>
c 84 [(nthV A 0), x11] h12 (fun x15 h16 =>
p_not x15 fun x17 =>
joinL (fun j18 => p_if x17 (
c 83 [(nthV A 0)] h16 (fun x23 h24 =>
j18 [] h24) kp) (j18 [] h16)) fun l19 h20 =>
asNil (
p_faddr 0 (nthV A 0) fun x25 =>
p_load1 x25 h20 fun x26 b27 =>
p_gen (.slc 5 (.t 17) (some (.c (vi 1))) none none) [(17, x26)] h20 fun x28 h29 k30 =>
asNil (
p_faddr 0 (nthV A 0) fun x31 =>
p_store 1 x31 x28 h29 fun h32 b33 =>
(fun (x34 : AV) (h35 : AHeap) =>
p_faddr 4 x6 fun x36 =>
p_load1 x36 h35 fun x37 b38 =>
ifB (okAll (.rd b38) h35 h35 [⟨6, .new, h32, h35⟩]) (
c 85 [(nthV A 0), (vi 1)] h35 (fun x41 h42 =>
ifB (okAll .big h35 h42 [⟨1, (.rd b38), h35, h35⟩, ⟨6, .new, h32, h35⟩]) (
p_fld x41 1 fun x43 =>
onFill [(1, 1, x37), (2, 1, x43)] [(vi 0), (vi 0), vS, (vi 0), (vi 0), (vi 0), (vi 0), (.int .u64 (.ofNat 0)), .nilSlice] fun l44 => (fun (x45 : AV) => ifB (okAll .free h42 h42 [⟨6, .new, h32, h35⟩]) (
p_store 9 x34 x45 h42 fun h46 b47 =>
p_faddr 1 x6 fun x48 =>
p_load1 x48 h46 fun x49 b50 =>
joinL (fun j51 =>
p_eq x49 (.str [109, 117, 116, 101, 120]) fun x54 =>
p_if x54 (p_faddr 0 x34 fun x55 =>
p_store 1 x55 (vi 4) h46 fun h56 b57 =>
j51 [] h56) (p_eq x49 (.str [97, 116, 111, 109, 105, 99]) fun x58 =>
p_if x58 (p_faddr 0 x34 fun x59 =>
p_store 1 x59 (vi 6) h46 fun h60 b61 =>
j51 [] h60) (p_eq x49 (.str [99, 104, 97, 110]) fun x62 =>
p_if x62 (c 86 [(nthV A 0)] h46 (fun x65 h66 =>
p_faddr 0 x34 fun x67 =>
p_store 1 x67 (vi 5) h66 fun h68 b69 =>
p_faddr 4 x34 fun x70 =>
p_store 1 x70 x65 h68 fun h71 b72 =>
c 87 [(nthV A 0)] h71 (fun x75 h76 =>
p_faddr 3 x34 fun x77 =>
p_store 1 x77 x75 h76 fun h78 b79 =>
j51 [] h78) kp) kp) (p_eq x49 (.str [102, 117, 110, 99]) fun x80 =>
p_if x80 (p_faddr 0 x34 fun x81 =>
p_store 1 x81 (vi 7) h46 fun h82 b83 =>
c 88 [(nthV A 0), x34] h82 (fun x86 h87 =>
onFill [(0, 9, (.agg [(vi 0), (vi 0), vS, (vi 0), (vi 0), (vi 0), (vi 0), (.int .u64 (.ofNat 0)), .nilSlice]))] [(vi 0), (vi 0), vS, (vi 0), (vi 0), (vi 0), (vi 0), (.int .u64 (.ofNat 0)), .nilSlice] fun l88 => ifB (flatsQ l88) ((fun (x89 : AV) (h90 : AHeap) =>
p_faddr 8 x34 fun x91 =>
p_load1 x91 h90 fun x92 b93 =>
ifB (okAll (.rd b93) h90 h90 [⟨5, .new, h87, h90⟩]) (
c 89 [(nthV A 0)] h90 (fun x97 h98 =>
ifB (okAll .big h90 h98 [⟨1, (.rd b93), h90, h90⟩, ⟨5, .new, h87, h90⟩]) (
p_lenL x92 fun x99 =>
p_append 9 96 x92 x89 h98 fun x100 h101 =>
p_iaddr 9 x100 x99 fun x102 =>
p_store 9 x102 x97 h101 fun h103 b104 =>
p_faddr 8 x34 fun x105 =>
p_store 1 x105 x100 h103 fun h106 b107 =>
ifB (okAll (.wr b107) h103 h106 [⟨8, (.wr b104), h101, h103⟩]) (
p_loadN 9 x34 h106 fun x108 b109 =>
p_store 9 x0 x108 h106 fun h110 b111 =>
p_loadN 9 x0 h110 fun x112 b113 => kr x112 h110) false) false) (fun p94 h95 => ifB (okAll .big h90 h95 [⟨1, (.rd b93), h90, h90⟩, ⟨5, .new, h87, h90⟩]) (
p_lenL x92 fun x96 =>
kp p94 h95) false)) false) (.slice h87.n (nat_lit 0) 1 1 true) (alQ h87 (.cells .own 9 l88))) false) kp) (p_faddr 0 x34 fun x114 =>
p_store 1 x114 (vi 2) h46 fun h115 b116 =>
onFill [(0, 1, (.str [91]))] [vS] fun l117 => ifB (flatsQ l117) ((fun (x118 : AV) (h119 : AHeap) =>
c 84 [(nthV A 0), x118] h119 (fun x122 h123 =>
joinL (fun j124 => p_if x122 (
c 86 [(nthV A 0)] h123 (fun x129 h130 =>
p_faddr 0 x34 fun x131 =>
p_store 1 x131 (vi 3) h130 fun h132 b133 =>
p_faddr 4 x34 fun x134 =>
p_store 1 x134 x129 h132 fun h135 b136 =>
j124 [] h135) kp) (j124 [] h123)) fun l125 h126 =>
c 87 [(nthV A 0)] h126 (fun x139 h140 =>
p_faddr 3 x34 fun x141 =>
p_store 1 x141 x139 h140 fun h142 b143 =>
j51 [] h142) kp) kp) (.slice h115.n (nat_lit 0) 1 1 true) (alQ h115 (.cells .own 1 l117))) false))))) fun l52 h53 =>
c 90 [(nthV A 0), (.str [59])] h53 (fun x146 h147 =>
p_loadN 9 x34 h147 fun x148 b149 =>
p_store 9 x0 x148 h147 fun h150 b151 =>
p_loadN 9 x0 h150 fun x152 b153 => kr x152 h150) kp) false) (.agg l44)) false) (fun p39 h40 => ifB (okAll .big h35 h40 [⟨1, (.rd b38), h35, h35⟩, ⟨6, .new, h32, h35⟩]) (
kp p39 h40) false)) false) (.ptr h32.n (nat_lit 0)) (alQ h32 (.cells .own (nat_lit 0) [(vi 0), (vi 0), vS, (vi 0), (vi 0), (vi 0), (vi 0), (.int .u64 (.ofNat 0)), .nilSlice]))) (nthV A 0)) (nthV A 0)) kp) (.slice h8.n (nat_lit 0) 5 5 true) (alQ h8 (.cells .own 1 l10))) false) (.ptr h5.n (nat_lit 0)) (alQ h5 (.cells .own (nat_lit 0) [(vi 0), vS, (vi 0), (.int .u64 (.ofNat 0)), (vi 0)]))) kp) (.ptr h.n (nat_lit 0)) (alQ h (.cells .own (nat_lit 0) [(vi 0), (vi 0), vS, (vi 0), (vi 0), (vi 0), (vi 0), (.int .u64 (.ofNat 0)), .nilSlice]))) false
noncomputable def h54 : FBody := fun c D k A h kr kp => ifB (Nat.beq (lenV A) 1) (
(fun (x0 : AV) (h1 : AHeap) =>
(fun (x2 : AV) => p_fn x2 fun g3 a4 b5 => (fun (l6 : List AV) =>
onFill [] [] fun l7 => (fun (x8 : AV) => p_fn (nthV A 0) fun g16 a17 b18 => c g16 (appL a17 (appL [x8] b18)) h1 (fun x14 h15 =>
p_store 1 x0 .nilIface h15 fun h19 b20 =>
D g3 l6 .ret h19 fun h21 =>
p_load1 x0 h21 fun x22 b23 => kr x22 h21) (fun p9 h10 => D g3 l6 (.pan p9) h10 fun h11 =>
p_load1 x0 h11 fun x12 b13 => kr x12 h11)) (.agg l7)) (appL a4 b5)) (.func (.func 97) [] [x0])) (.ptr h.n (nat_lit 0)) (alQ h (.cells .own (nat_lit 0) [.nilIface]))) false
noncomputable def h55 : FBody := fun c D k A h kr kp => ifB (Nat.beq (lenV A) 2) (
p_box (nthV A 0) h fun x0 h1 =>
p_loadN 0 x0 h1 fun x2 b3 =>
p_loadN 9 (nthV A 1) h1 fun x4 b5 =>
c 56 [x2, x4] h1 (fun x8 h9 =>
kr undefA h9) kp) false
noncomputable def h56 : FBody := fun c D k A h kr kp => ifB (Nat.beq (lenV A) 2) (
p_box (nthV A 0) h fun x0 h1 =>
p_box (nthV A 1) h1 fun x2 h3 =>
p_loadN 0 x0 h3 fun x4 b5 =>
p_faddr 0 x2 fun x6 =>
p_load1 x6 h3 fun x7 b8 =>
p_eq x7 (vi 1) fun x9 =>
c 98 [x4, x9] h3 (fun x12 h13 =>
p_loadN 0 x0 h13 fun x14 b15 =>
p_loadN 9 x2 h13 fun x16 b17 =>
onFill [] [(vi 0), (vi 0), vS, (vi 0), (vi 0), (vi 0), (vi 0), (.int .u64 (.ofNat 0)), .nilSlice] fun l18 => (fun (x19 : AV) => c 99 [x14, x16, x19] h13 (fun x22 h23 =>
p_faddr 8 x2 fun x24 =>
p_load1 x24 h23 fun x25 b26 =>
p_lenL x25 fun x27 =>
loopB k (fun r28 l29 h30 =>
p_bin .lss fiLss (nthV l29 0) x27 fun x31 =>
joinL (fun j32 => p_if x31 (
j32 [] h30) (kr undefA h30)) fun l33 h34 =>
joinL (fun j35 =>
p_iaddr 9 x25 (nthV l29 0) fun x38 =>
p_loadN 9 x38 h34 fun x39 b40 =>
(fun (x41 : AV) (h42 : AHeap) =>
p_store 9 x41 x39 h42 fun h43 b44 =>
p_loadN 0 x0 h43 fun x45 b46 =>
p_loadN 9 x41 h43 fun x47 b48 =>
c 100 [x45, x47] h43 (fun x51 h52 =>
j35 [] h52) kp) (.ptr h34.n (nat_lit 0)) (alQ h34 (.cells .own (nat_lit 0) [(vi 0), (vi 0), vS, (vi 0), (vi 0), (vi 0), (vi 0), (.int .u64 (.ofNat 0)), .nilSlice]))) fun l36 h37 =>
p_add (nthV l29 0) (vi 1) fun x53 =>
r28 [x53] h37) [(vi 0)] h23) kp) (.agg l18)) kp) false
noncomputable def h68 : FBody := fun c D k A h kr kp => ifB (Nat.beq (lenV A) 2) (
p_box (nthV A 0) h fun x0 h1 =>
p_box (nthV A 1) h1 fun x2 h3 =>
onFill [] [(vi 0), (vi 0), vS, (vi 0), (vi 0), (vi 0), (vi 0), (.int .u64 (.ofNat 0)), .nilSlice] fun l4 => (fun (x5 : AV) => (fun (x6 : AV) (h7 : AHeap) =>
p_store 9 x6 x5 h7 fun h8 b9 =>
p_faddr 0 x2 fun x10 =>
p_load1 x10 h8 fun x11 b12 =>
joinL (fun j13 =>
p_eq x11 (vi 25) fun x16 =>
p_if x16 (p_loadN 0 x0 h8 fun x17 b18 =>
p_faddr 4 x2 fun x19 =>
p_load1 x19 h8 fun x20 b21 =>
p_bin .geq fiGeq x20 (vi 0) fun x22 =>
c 98 [x17, x22] h8 (fun x25 h26 =>
p_faddr 4 x2 fun x27 =>
p_load1 x27 h26 fun x28 b29 =>
p_faddr 4 x6 fun x30 =>
p_store 1 x30 x28 h26 fun h31 b32 =>
j13 [(vi 0)] h31) kp) (p_eq x11 (vi 26) fun x33 =>
p_if x33 (p_faddr 7 x2 fun x34 =>
p_load1 x34 h8 fun x35 b36 =>
p_faddr 7 x6 fun x37 =>
p_store 1 x37 x35 h8 fun h38 b39 =>
j13 [(vi 0)] h38) (p_eq x11 (vi 27) fun x40 =>
p_if x40 (p_loadN 0 x0 h8 fun x41 b42 =>
p_faddr 4 x2 fun x43 =>
p_load1 x43 h8 fun x44 b45 =>
p_eq x44 (vi 0) fun x46 =>
joinV (fun j47 => p_no x46 (p_faddr 4 x2 fun x50 =>
j47 x50 h8) (j47 undefA h8)) fun x48 h49 =>
joinV (fun j51 => p_no x46 (p_load1 x48 h49 fun x54 b55 =>
j51 x54 h49) (j51 undefA h49)) fun x52 h53 =>
joinV (fun j56 => p_no x46 (p_eq x52 (vi 1) fun x59 =>
j56 x59 h53) (j56 undefA h53)) fun x57 h58 =>
p_pick x46 vT x57 fun x60 =>
c 98 [x41, x60] h58 (fun x63 h64 =>
p_faddr 4 x2 fun x65 =>
p_load1 x65 h64 fun x66 b67 =>
p_faddr 4 x6 fun x68 =>
p_store 1 x68 x66 h64 fun h69 b70 =>
j13 [(vi 0)] h69) kp) (p_eq x11 (vi 28) fun x71 =>
joinL (fun j72 => p_if x71 (
j72 [x71] h8) (p_eq x11 (vi 29) fun x75 =>
j72 [x75] h8)) fun l73 h74 =>
p_if (nthV l73 0) (p_loadN 0 x0 h74 fun x76 b77 =>
p_faddr 2 x2 fun x78 =>
p_load1 x78 h74 fun x79 b80 =>
c 108 [x76, x79] h74 (fun x83 h84 =>
p_faddr 2 x2 fun x85 =>
p_load1 x85 h84 fun x86 b87 =>
p_faddr 2 x6 fun x88 =>
p_store 1 x88 x86 h84 fun h89 b90 =>
p_faddr 0 x2 fun x91 =>
p_load1 x91 h89 fun x92 b93 =>
p_bin .sub fiSub x92 (vi 28) fun x94 =>
j13 [x94] h89) kp) (p_eq x11 (vi 30) fun x95 =>
p_if x95 (p_loadN 0 x0 h74 fun x96 b97 =>
p_faddr 2 x2 fun x98 =>
p_load1 x98 h74 fun x99 b100 =>
p_eq x99 (.str [45]) fun x101 =>
joinV (fun j102 => p_no x101 (p_faddr 2 x2 fun x105 =>
j102 x105 h74) (j102 undefA h74)) fun x103 h104 =>
joinV (fun j106 => p_no x101 (p_load1 x103 h104 fun x109 b110 =>
j106 x109 h104) (j106 undefA h104)) fun x107 h108 =>
joinV (fun j111 => p_no x101 (p_eq x107 (.str [33]) fun x114 =>
j111 x114 h108) (j111 undefA h108)) fun x112 h113 =>
p_pick x101 vT x112 fun x115 =>
joinV (fun j116 => p_no x115 (p_faddr 2 x2 fun x119 =>
j116 x119 h113) (j116 undefA h113)) fun x117 h118 =>
joinV (fun j120 => p_no x115 (p_load1 x117 h118 fun x123 b124 =>
j120 x123 h118) (j120 undefA h118)) fun x121 h122 =>
joinV (fun j125 => p_no x115 (p_eq x121 (.str [105, 110, 116]) fun x128 =>
j125 x128 h122) (j125 undefA h122)) fun x126 h127 =>
p_pick x115 vT x126 fun x129 =>
joinV (fun j130 => p_no x129 (p_faddr 2 x2 fun x133 =>
j130 x133 h127) (j130 undefA h127)) fun x131 h132 =>
joinV (fun j134 => p_no x129 (p_load1 x131 h132 fun x137 b138 =>
j134 x137 h132) (j134 undefA h132)) fun x135 h136 =>
joinV (fun j139 => p_no x129 (p_eq x135 (.str [102, 108, 111, 97, 116]) fun x142 =>
j139 x142 h136) (j139 undefA h136)) fun x140 h141 =>
p_pick x129 vT x140 fun x143 =>
c 98 [x96, x143] h141 (fun x146 h147 =>
p_faddr 2 x2 fun x148 =>
p_load1 x148 h147 fun x149 b150 =>
p_faddr 2 x6 fun x151 =>
p_store 1 x151 x149 h147 fun h152 b153 =>
j13 [(vi 1)] h152) kp) (p_eq x11 (vi 31) fun x154 =>
p_if x154 (p_loadN 0 x0 h74 fun x155 b156 =>
p_faddr 2 x2 fun x157 =>
p_load1 x157 h74 fun x158 b159 =>
ifB (okAll (.rd b159) h74 h74 [⟨0, (.rd b156), h74, h74⟩]) (
c 109 [x158] h74 (fun x162 h163 =>
ifB (okAll .big h74 h163 [⟨0, (.rd b156), h74, h74⟩]) (
p_bin .gtr fiGtr x162 (vi 0) fun x164 =>
c 98 [x155, x164] h163 (fun x167 h168 =>
p_faddr 2 x2 fun x169 =>
p_load1 x169 h168 fun x170 b171 =>
p_faddr 2 x6 fun x172 =>
p_store 1 x172 x170 h168 fun h173 b174 =>
j13 [(vi 2)] h173) kp) false) (fun p160 h161 => ifB (okAll .big h74 h161 [⟨0, (.rd b156), h74, h74⟩]) (
kp p160 h161) false)) false) (p_loadN 0 x0 h74 fun x175 b176 =>
c 98 [x175, vF] h74 (fun x179 h180 =>
j13 [(vi 0)] h180) kp))))))) fun l14 h15 =>
p_loadN 0 x0 h15 fun x181 b182 =>
p_loadN 9 x2 h15 fun x183 b184 =>
p_loadN 9 x6 h15 fun x185 b186 =>
c 99 [x181, x183, x185] h15 (fun x189 h190 =>
p_loadN 0 x0 h190 fun x191 b192 =>
p_faddr 8 x2 fun x193 =>
p_load1 x193 h190 fun x194 b195 =>
p_lenL x194 fun x196 =>
p_eq x196 (nthV l14 0) fun x197 =>
c 98 [x191, x197] h190 (fun x200 h201 =>
p_faddr 8 x2 fun x202 =>
p_load1 x202 h201 fun x203 b204 =>
p_lenL x203 fun x205 =>
loopB k (fun r206 l207 h208 =>
p_bin .lss fiLss (nthV l207 0) x205 fun x209 =>
joinL (fun j210 => p_if x209 (
j210 [] h208) (kr undefA h208)) fun l211 h212 =>
joinL (fun j213 =>
p_iaddr 9 x203 (nthV l207 0) fun x216 =>
p_loadN 9 x216 h212 fun x217 b218 =>
(fun (x219 : AV) (h220 : AHeap) =>
p_store 9 x219 x217 h220 fun h221 b222 =>
p_loadN 0 x0 h221 fun x223 b224 =>
p_loadN 9 x219 h221 fun x225 b226 =>
c 68 [x223, x225] h221 (fun x229 h230 =>
j213 [] h230) kp) (.ptr h212.n (nat_lit 0)) (alQ h212 (.cells .own (nat_lit 0) [(vi 0), (vi 0), vS, (vi 0), (vi 0), (vi 0), (vi 0), (.int .u64 (.ofNat 0)), .nilSlice]))) fun l214 h215 =>
p_add (nthV l207 0) (vi 1) fun x231 =>
r206 [x231] h215) [(vi 0)] h201) kp) kp) (.ptr h3.n (nat_lit 0)) (alQ h3 (.cells .own (nat_lit 0) [(vi 0), (vi 0), vS, (vi 0), (vi 0), (vi 0), (vi 0), (.int .u64 (.ofNat 0)), .nilSlice]))) (.agg l4)) false
noncomputable def h71 : FBody := fun c D k A h kr kp => ifB (Nat.beq (lenV A) 1) (
asNil (
p_faddr 0 (nthV A 0) fun x0 =>
p_faddr 0 x0 fun x1 =>
p_load1 x1 h fun x2 b3 =>
p_lenL x2 fun x4 =>
p_bin .leq fiLeq x4 (vi 128) fun x5 =>
joinV (fun j6 => p_yes x5 (j6 (nthV A 0) h) (j6 undefA h)) fun x7 h8 =>
joinV (fun j9 => p_yes x5 (asNil (
j9 x7 h8) x7) (j9 undefA h8)) fun x10 h11 =>
joinV (fun j12 => p_yes x5 (p_faddr 0 x10 fun x15 =>
j12 x15 h11) (j12 undefA h11)) fun x13 h14 =>
joinV (fun j16 => p_yes x5 (p_faddr 0 x13 fun x19 =>
j16 x19 h14) (j16 undefA h14)) fun x17 h18 =>
joinV (fun j20 => p_yes x5 (p_load1 x17 h18 fun x23 b24 =>
j20 x23 h18) (j20 undefA h18)) fun x21 h22 =>
joinV (fun j25 => p_yes x5 (c 115 [x21, (.func (.func 116) [] [])] h22 (fun x30 h31 =>
j25 x30 h31) kp) (j25 undefA h22)) fun x26 h27 =>
joinV (fun j32 => p_yes x5 (p_not x26 fun x35 =>
j32 x35 h27) (j32 undefA h27)) fun x33 h34 =>
p_pick x5 x33 vF fun x36 =>
c 114 [x36] h34 (fun x39 h40 =>
asNil (
p_faddr 0 (nthV A 0) fun x41 =>
p_faddr 1 x41 fun x42 =>
p_load1 x42 h40 fun x43 b44 =>
p_bin .geq fiGeq x43 (vi 0) fun x45 =>
joinC (fun j46 => p_yes x45 (j46 (nthV A 0) h40 .free h40) (j46 undefA h40 .free h40)) fun x47 h48 k49 h50 =>
joinC (fun j51 => p_yes x45 (asNil (
j51 x47 h48 .free h48) x47) (j51 undefA h48 .free h48)) fun x52 h53 k54 h55 =>
joinC (fun j56 => p_yes x45 (p_faddr 0 x52 fun x61 =>
j56 x61 h53 .free h53) (j56 undefA h53 .free h53)) fun x57 h58 k59 h60 =>
joinC (fun j62 => p_yes x45 (p_faddr 1 x57 fun x67 =>
j62 x67 h58 .free h58) (j62 undefA h58 .free h58)) fun x63 h64 k65 h66 =>
joinC (fun j68 => p_yes x45 (p_load1 x63 h64 fun x73 b74 =>
j68 x73 h64 (.rd b74) h64) (j68 undefA h64 .free h64)) fun x69 h70 k71 h72 =>
joinC (fun j75 => p_yes x45 (p_bin .leq fiLeq x69 (vi 32) fun x80 =>
j75 x80 h70 .free h70) (j75 undefA h70 .free h70)) fun x76 h77 k78 h79 =>
p_pick x45 x76 vF fun x81 =>
joinC (fun j82 => p_yes x81 (j82 (nthV A 0) h77 .free h77) (j82 undefA h77 .free h77)) fun x83 h84 k85 h86 =>
joinC (fun j87 => p_yes x81 (asNil (
j87 x83 h84 .free h84) x83) (j87 undefA h84 .free h84)) fun x88 h89 k90 h91 =>
joinC (fun j92 => p_yes x81 (p_faddr 0 x88 fun x97 =>
j92 x97 h89 .free h89) (j92 undefA h89 .free h89)) fun x93 h94 k95 h96 =>
joinC (fun j98 => p_yes x81 (p_faddr 2 x93 fun x103 =>
j98 x103 h94 .free h94) (j98 undefA h94 .free h94)) fun x99 h100 k101 h102 =>
joinC (fun j104 => p_yes x81 (p_load1 x99 h100 fun x109 b110 =>
j104 x109 h100 (.rd b110) h100) (j104 undefA h100 .free h100)) fun x105 h106 k107 h108 =>
joinC (fun j111 => p_yes x81 (p_bin .geq fiGeq x105 (vi 0) fun x116 =>
j111 x116 h106 .free h106) (j111 undefA h106 .free h106)) fun x112 h113 k114 h115 =>
p_pick x81 x112 vF fun x117 =>
joinC (fun j118 => p_yes x117 (j118 (nthV A 0) h113 .free h113) (j118 undefA h113 .free h113)) fun x119 h120 k121 h122 =>
joinC (fun j123 => p_yes x117 (asNil (
j123 x119 h120 .free h120) x119) (j123 undefA h120 .free h120)) fun x124 h125 k126 h127 =>
joinC (fun j128 => p_yes x117 (p_faddr 0 x124 fun x133 =>
j128 x133 h125 .free h125) (j128 undefA h125 .free h125)) fun x129 h130 k131 h132 =>
joinC (fun j134 => p_yes x117 (p_faddr 2 x129 fun x139 =>
j134 x139 h130 .free h130) (j134 undefA h130 .free h130)) fun x135 h136 k137 h138 =>
joinC (fun j140 => p_yes x117 (p_load1 x135 h136 fun x145 b146 =>
j140 x145 h136 (.rd b146) h136) (j140 undefA h136 .free h136)) fun x141 h142 k143 h144 =>
joinC (fun j147 => p_yes x117 (p_bin .leq fiLeq x141 (vi 32) fun x152 =>
j147 x152 h142 .free h142) (j147 undefA h142 .free h142)) fun x148 h149 k150 h151 =>
p_pick x117 x148 vF fun x153 =>
joinC (fun j154 => p_yes x153 (j154 (nthV A 0) h149 .free h149) (j154 undefA h149 .free h149)) fun x155 h156 k157 h158 =>
joinC (fun j159 => p_yes x153 (asNil (
j159 x155 h156 .free h156) x155) (j159 undefA h156 .free h156)) fun x160 h161 k162 h163 =>
joinC (fun j164 => p_yes x153 (p_faddr 0 x160 fun x169 =>
j164 x169 h161 .free h161) (j164 undefA h161 .free h161)) fun x165 h166 k167 h168 =>
joinC (fun j170 => p_yes x153 (p_faddr 1 x165 fun x175 =>
j170 x175 h166 .free h166) (j170 undefA h166 .free h166)) fun x171 h172 k173 h174 =>
joinC (fun j176 => p_yes x153 (p_load1 x171 h172 fun x181 b182 =>
j176 x181 h172 (.rd b182) h172) (j176 undefA h172 .free h172)) fun x177 h178 k179 h180 =>
joinC (fun j183 => p_yes x153 (j183 (nthV A 0) h178 .free h178) (j183 undefA h178 .free h178)) fun x184 h185 k186 h187 =>
joinC (fun j188 => p_yes x153 (asNil (
j188 x184 h185 .free h185) x184) (j188 undefA h185 .free h185)) fun x189 h190 k191 h192 =>
joinC (fun j193 => p_yes x153 (p_faddr 0 x189 fun x198 =>
j193 x198 h190 .free h190) (j193 undefA h190 .free h190)) fun x194 h195 k196 h197 =>
joinC (fun j199 => p_yes x153 (p_faddr 2 x194 fun x204 =>
j199 x204 h195 .free h195) (j199 undefA h195 .free h195)) fun x200 h201 k202 h203 =>
joinC (fun j205 => p_yes x153 (p_load1 x200 h201 fun x210 b211 =>
ifB (okAll (.rd b211) h201 h201 [⟨35, k179, h180, h178⟩]) (
j205 x210 h201 (.rd b211) h201) false) (j205 undefA h201 .free h201)) fun x206 h207 k208 h209 =>
joinC (fun j212 => p_yes x153 (p_add x177 x206 fun x217 =>
j212 x217 h207 .free h207) (j212 undefA h207 .free h207)) fun x213 h214 k215 h216 =>
joinC (fun j218 => p_yes x153 (j218 (nthV A 0) h214 .free h214) (j218 undefA h214 .free h214)) fun x219 h220 k221 h222 =>
joinC (fun j223 => p_yes x153 (asNil (
j223 x219 h220 .free h220) x219) (j223 undefA h220 .free h220)) fun x224 h225 k226 h227 =>
joinC (fun j228 => p_yes x153 (p_faddr 0 x224 fun x233 =>
j228 x233 h225 .free h225) (j228 undefA h225 .free h225)) fun x229 h230 k231 h232 =>
joinC (fun j234 => p_yes x153 (p_faddr 3 x229 fun x239 =>
j234 x239 h230 .free h230) (j234 undefA h230 .free h230)) fun x235 h236 k237 h238 =>
joinC (fun j240 => p_yes x153 (p_load1 x235 h236 fun x245 b246 =>
ifB (okAll (.rd b246) h236 h236 [⟨40, k208, h209, h207⟩, ⟨35, k179, h180, h178⟩]) (
j240 x245 h236 (.rd b246) h236) false) (j240 undefA h236 .free h236)) fun x241 h242 k243 h244 =>
joinC (fun j247 => p_yes x153 (p_lenL x241 fun x252 =>
j247 x252 h242 .free h242) (j247 undefA h242 .free h242)) fun x248 h249 k250 h251 =>
joinC (fun j253 => p_yes x153 (p_add x213 x248 fun x258 =>
j253 x258 h249 .free h249) (j253 undefA h249 .free h249)) fun x254 h255 k256 h257 =>
joinC (fun j259 => p_yes x153 (p_bin .leq fiLeq x254 (vi 32) fun x264 =>
j259 x264 h255 .free h255) (j259 undefA h255 .free h255)) fun x260 h261 k262 h263 =>
p_pick x153 x260 vF fun x265 =>
c 114 [x265] h261 (fun x268 h269 =>
asNil (
p_faddr 0 (nthV A 0) fun x270 =>
p_faddr 3 x270 fun x271 =>
p_load1 x271 h269 fun x272 b273 =>
p_lenL x272 fun x274 =>
joinL (fun j275 =>
loopB k (fun r278 l279 h280 =>
p_bin .lss fiLss (nthV l279 0) x274 fun x281 =>
joinL (fun j282 => p_if x281 (
j282 [] h280) (j275 [] h280)) fun l283 h284 =>
joinL (fun j285 =>
p_iaddr 2 x272 (nthV l279 0) fun x288 =>
p_loadN 2 x288 h284 fun x289 b290 =>
(fun (x291 : AV) (h292 : AHeap) =>
p_store 2 x291 x289 h292 fun h293 b294 =>
p_faddr 0 x291 fun x295 =>
p_load1 x295 h293 fun x296 b297 =>
c 117 [x296] h293 (fun x300 h301 =>
joinV (fun j302 => p_yes x300 (p_faddr 1 x291 fun x305 =>
j302 x305 h301) (j302 undefA h301)) fun x303 h304 =>
joinV (fun j306 => p_yes x300 (p_load1 x303 h304 fun x309 b310 =>
j306 x309 h304) (j306 undefA h304)) fun x307 h308 =>
joinV (fun j311 => p_yes x300 (p_bin .geq fiGeq x307 (vi 0) fun x314 =>
j311 x314 h308) (j311 undefA h308)) fun x312 h313 =>
p_pick x300 x312 vF fun x315 =>
joinV (fun j316 => p_yes x315 (p_faddr 1 x291 fun x319 =>
j316 x319 h313) (j316 undefA h313)) fun x317 h318 =>
joinV (fun j320 => p_yes x315 (p_load1 x317 h318 fun x323 b324 =>
j320 x323 h318) (j320 undefA h318)) fun x321 h322 =>
joinV (fun j325 => p_yes x315 (p_bin .leq fiLeq x321 (vi 8) fun x328 =>
j325 x328 h322) (j325 undefA h322)) fun x326 h327 =>
p_pick x315 x326 vF fun x329 =>
c 114 [x329] h327 (fun x332 h333 =>
j285 [] h333) kp) kp) (.ptr h284.n (nat_lit 0)) (alQ h284 (.cells .own (nat_lit 0) [(vi 0), (vi 0)]))) fun l286 h287 =>
p_add (nthV l279 0) (vi 1) fun x334 =>
r278 [x334] h287) [(vi 0)] h269) fun l276 h277 =>
asNil (
p_faddr 0 (nthV A 0) fun x335 =>
p_faddr 4 x335 fun x336 =>
p_load1 x336 h277 fun x337 b338 =>
p_lenL x337 fun x339 =>
p_bin .leq fiLeq x339 (vi 16) fun x340 =>
joinC (fun j341 => p_yes x340 (j341 (nthV A 0) h277 .free h277) (j341 undefA h277 .free h277)) fun x342 h343 k344 h345 =>
joinC (fun j346 => p_yes x340 (asNil (
j346 x342 h343 .free h343) x342) (j346 undefA h343 .free h343)) fun x347 h348 k349 h350 =>
joinC (fun j351 => p_yes x340 (p_faddr 0 x347 fun x356 =>
j351 x356 h348 .free h348) (j351 undefA h348 .free h348)) fun x352 h353 k354 h355 =>
joinC (fun j357 => p_yes x340 (p_faddr 5 x352 fun x362 =>
j357 x362 h353 .free h353) (j357 undefA h353 .free h353)) fun x358 h359 k360 h361 =>
joinC (fun j363 => p_yes x340 (p_load1 x358 h359 fun x368 b369 =>
j363 x368 h359 (.rd b369) h359) (j363 undefA h359 .free h359)) fun x364 h365 k366 h367 =>
joinC (fun j370 => p_yes x340 (j370 (nthV A 0) h365 .free h365) (j370 undefA h365 .free h365)) fun x371 h372 k373 h374 =>
joinC (fun j375 => p_yes x340 (asNil (
j375 x371 h372 .free h372) x371) (j375 undefA h372 .free h372)) fun x376 h377 k378 h379 =>
joinC (fun j380 => p_yes x340 (p_faddr 0 x376 fun x385 =>
j380 x385 h377 .free h377) (j380 undefA h377 .free h377)) fun x381 h382 k383 h384 =>
joinC (fun j386 => p_yes x340 (p_faddr 4 x381 fun x391 =>
j386 x391 h382 .free h382) (j386 undefA h382 .free h382)) fun x387 h388 k389 h390 =>
joinC (fun j392 => p_yes x340 (p_load1 x387 h388 fun x397 b398 =>
ifB (okAll (.rd b398) h388 h388 [⟨12, k366, h367, h365⟩]) (
j392 x397 h388 (.rd b398) h388) false) (j392 undefA h388 .free h388)) fun x393 h394 k395 h396 =>
joinC (fun j399 => p_yes x340 (p_lenL x393 fun x404 =>
j399 x404 h394 .free h394) (j399 undefA h394 .free h394)) fun x400 h401 k402 h403 =>
joinC (fun j405 => p_yes x340 (c 118 [x364, x400] h401 (fun x412 h413 =>
j405 x412 h413 .big h401) kp) (j405 undefA h401 .free h401)) fun x406 h407 k408 h409 =>
p_pick x340 x406 vF fun x414 =>
joinC (fun j415 => p_yes x414 (j415 (nthV A 0) h407 .free h407) (j415 undefA h407 .free h407)) fun x416 h417 k418 h419 =>
joinC (fun j420 => p_yes x414 (asNil (
j420 x416 h417 .free h417) x416) (j420 undefA h417 .free h417)) fun x421 h422 k423 h424 =>
joinC (fun j425 => p_yes x414 (p_faddr 0 x421 fun x430 =>
j425 x430 h422 .free h422) (j425 undefA h422 .free h422)) fun x426 h427 k428 h429 =>
joinC (fun j431 => p_yes x414 (p_faddr 4 x426 fun x436 =>
j431 x436 h427 .free h427) (j431 undefA h427 .free h427)) fun x432 h433 k434 h435 =>
joinC (fun j437 => p_yes x414 (p_load1 x432 h433 fun x442 b443 =>
j437 x442 h433 (.rd b443) h433) (j437 undefA h433 .free h433)) fun x438 h439 k440 h441 =>
joinC (fun j444 => p_yes x414 (j444 (nthV A 0) h439 .free h439) (j444 undefA h439 .free h439)) fun x445 h446 k447 h448 =>
joinC (fun j449 => p_yes x414 (asNil (
j449 x445 h446 .free h446) x445) (j449 undefA h446 .free h446)) fun x450 h451 k452 h453 =>
joinC (fun j454 => p_yes x414 (p_faddr 0 x450 fun x459 =>
j454 x459 h451 .free h451) (j454 undefA h451 .free h451)) fun x455 h456 k457 h458 =>
joinC (fun j460 => p_yes x414 (p_faddr 5 x455 fun x465 =>
j460 x465 h456 .free h456) (j460 undefA h456 .free h456)) fun x461 h462 k463 h464 =>
joinC (fun j466 => p_yes x414 (p_load1 x461 h462 fun x471 b472 =>
ifB (okAll (.rd b472) h462 h462 [⟨26, k440, h441, h439⟩]) (
j466 x471 h462 (.rd b472) h462) false) (j466 undefA h462 .free h462)) fun x467 h468 k469 h470 =>
joinC (fun j473 => p_yes x414 (p_iaddr 12 x438 x467 fun x478 =>
j473 x478 h468 .free h468) (j473 undefA h468 .free h468)) fun x474 h475 k476 h477 =>
joinC (fun j479 => p_yes x414 (p_faddr 1 x474 fun x484 =>
j479 x484 h475 .free h475) (j479 undefA h475 .free h475)) fun x480 h481 k482 h483 =>
joinC (fun j485 => p_yes x414 (p_load1 x480 h481 fun x490 b491 =>
j485 x490 h481 (.rd b491) h481) (j485 undefA h481 .free h481)) fun x486 h487 k488 h489 =>
joinC (fun j492 => p_yes x414 (p_eq x486 (vi 0) fun x497 =>
j492 x497 h487 .free h487) (j492 undefA h487 .free h487)) fun x493 h494 k495 h496 =>
p_pick x414 x493 vF fun x498 =>
c 114 [x498] h494 (fun x501 h502 =>
asNil (
p_faddr 0 (nthV A 0) fun x503 =>
p_faddr 4 x503 fun x504 =>
p_load1 x504 h502 fun x505 b506 =>
p_lenL x505 fun x507 =>
loopB k (fun r508 l509 h510 =>
p_bin .lss fiLss (nthV l509 0) x507 fun x511 =>
joinL (fun j512 => p_if x511 (
j512 [] h510) (kr undefA h510)) fun l513 h514 =>
joinL (fun j515 =>
p_iaddr 12 x505 (nthV l509 0) fun x518 =>
p_loadN 12 x518 h514 fun x519 b520 =>
(fun (x521 : AV) (h522 : AHeap) =>
p_store 12 x521 x519 h522 fun h523 b524 =>
p_faddr 1 x521 fun x525 =>
p_load1 x525 h523 fun x526 b527 =>
p_bin .geq fiGeq x526 (vi 0) fun x528 =>
joinV (fun j529 => p_yes x528 (p_faddr 1 x521 fun x532 =>
j529 x532 h523) (j529 undefA h523)) fun x530 h531 =>
joinV (fun j533 => p_yes x528 (p_load1 x530 h531 fun x536 b537 =>
j533 x536 h531) (j533 undefA h531)) fun x534 h535 =>
joinV (fun j538 => p_yes x528 (p_bin .leq fiLeq x534 (vi 4) fun x541 =>
j538 x541 h535) (j538 undefA h535)) fun x539 h540 =>
p_pick x528 x539 vF fun x542 =>
joinV (fun j543 => p_yes x542 (p_faddr 1 x521 fun x546 =>
j543 x546 h540) (j543 undefA h540)) fun x544 h545 =>
joinV (fun j547 => p_yes x542 (p_load1 x544 h545 fun x550 b551 =>
j547 x550 h545) (j547 undefA h545)) fun x548 h549 =>
joinV (fun j552 => p_yes x542 (p_faddr 2 x521 fun x555 =>
j552 x555 h549) (j552 undefA h549)) fun x553 h554 =>
joinV (fun j556 => p_yes x542 (p_load1 x553 h554 fun x559 b560 =>
j556 x559 h554) (j556 undefA h554)) fun x557 h558 =>
joinV (fun j561 => p_yes x542 (p_lenL x557 fun x564 =>
j561 x564 h558) (j561 undefA h558)) fun x562 h563 =>
joinV (fun j565 => p_yes x542 (p_bin .leq fiLeq x548 x562 fun x568 =>
j565 x568 h563) (j565 undefA h563)) fun x566 h567 =>
p_pick x542 x566 vF fun x569 =>
joinV (fun j570 => p_yes x569 (p_faddr 2 x521 fun x573 =>
j570 x573 h567) (j570 undefA h567)) fun x571 h572 =>
joinV (fun j574 => p_yes x569 (p_load1 x571 h572 fun x577 b578 =>
j574 x577 h572) (j574 undefA h572)) fun x575 h576 =>
joinV (fun j579 => p_yes x569 (p_lenL x575 fun x582 =>
j579 x582 h576) (j579 undefA h576)) fun x580 h581 =>
joinV (fun j583 => p_yes x569 (p_bin .leq fiLeq x580 (vi 32) fun x586 =>
j583 x586 h581) (j583 undefA h581)) fun x584 h585 =>
p_pick x569 x584 vF fun x587 =>
c 114 [x587] h585 (fun x590 h591 =>
p_faddr 2 x521 fun x592 =>
p_load1 x592 h591 fun x593 b594 =>
p_faddr 1 x521 fun x595 =>
p_load1 x595 h591 fun x596 b597 =>
p_gen (.slc 1 (.t 174) none (some (.t 176)) none) [(174, x593), (176, x596)] h591 fun x598 h599 k600 =>
p_lenL x598 fun x601 =>
joinL (fun j602 =>
loopB k (fun r605 l606 h607 =>
p_bin .lss fiLss (nthV l606 0) x601 fun x608 =>
joinL (fun j609 => p_if x608 (
j609 [] h607) (j602 [] h607)) fun l610 h611 =>
joinL (fun j612 =>
p_iaddr 1 x598 (nthV l606 0) fun x615 =>
p_load1 x615 h611 fun x616 b617 =>
c 117 [x616] h611 (fun x620 h621 =>
c 114 [x620] h621 (fun x624 h625 =>
j612 [] h625) kp) kp) fun l613 h614 =>
p_add (nthV l606 0) (vi 1) fun x626 =>
r605 [x626] h614) [(vi 0)] h599) fun l603 h604 =>
p_loadN 12 x521 h604 fun x627 b628 =>
asNil (
p_faddr 6 (nthV A 0) fun x629 =>
p_store 12 x629 x627 h604 fun h630 b631 =>
p_faddr 3 x521 fun x632 =>
p_loadN 9 x632 h630 fun x633 b634 =>
c 119 [(nthV A 0), x633, (vi 0)] h630 (fun x637 h638 =>
j515 [] h638) kp) (nthV A 0)) kp) (.ptr h514.n (nat_lit 0)) (alQ h514 (.cells .own (nat_lit 0) [vS, (vi 0), .nilSlice, (vi 0), (vi 0), vS, (vi 0), (vi 0), (vi 0), (vi 0), (.int .u64 (.ofNat 0)), .nilSlice]))) fun l516 h517 =>
p_add (nthV l509 0) (vi 1) fun x639 =>
r508 [x639] h517) [(vi 0)] h502) (nthV A 0)) kp) (nthV A 0)) (nthV A 0)) kp) (nthV A 0)) kp) (nthV A 0)) false
noncomputable def d72 : FDBody := fun c k A lv h K => ifB (Nat.beq (lenV A) 1) (
p_eqv true (.one .iface) (lvQ lv) .nilIface fun x0 =>
p_if x0 (p_gen (.tassert 124 (.agg [.nilIface, (vi 0)]) (.t 8)) [(8, (lvQ lv))] h fun x1 h2 k3 =>
p_ext x1 0 fun x4 =>
p_ext x1 1 fun x5 =>
(fun (x6 : AV) (h7 : AHeap) =>
p_store 2 x6 x4 h7 fun h8 b9 =>
p_not x5 fun x10 =>
joinL (fun j11 => p_if x10 (
asIf (fun t14 x15 => false) (lvQ lv)) (j11 [] h8)) fun l12 h13 =>
p_faddr 0 x6 fun x16 =>
p_loadN 2 x16 h13 fun x17 b18 =>
p_store 2 (nthV A 0) x17 h13 fun h19 b20 =>
K h19) (.ptr h2.n (nat_lit 0)) (alQ h2 (.cells .own (nat_lit 0) [.nilIface, (vi 0)]))) (K h)) false
noncomputable def h73 : FBody := fun c D k A h kr kp => ifB (Nat.beq (lenV A) 2) (
p_bin .lss fiLss (nthV A 1) (vi 0) fun x0 =>
joinL (fun j1 => p_if x0 (
(fun (x4 : AV) => asIf (fun t5 x6 => kp (.iface t5 x6) h) x4) (.iface 9 (.str [99, 97, 110, 110, 111, 116, 32, 98, 101, 32, 110, 101, 103, 97, 116, 105, 118, 101]))) (j1 [] h)) fun l2 h3 =>
p_lenL (nthV A 0) fun x7 =>
p_cvi .u64 x7 fun x8 =>
p_cvi .u64 (nthV A 1) fun x9 =>
c 120 [x8, x9] h3 (fun x12 h13 =>
p_ext x12 0 fun x14 =>
p_ext x12 1 fun x15 =>
p_bin .gtr fiGtr x14 (.int .u64 (.ofNat 0)) fun x16 =>
joinV (fun j17 => p_no x16 (j17 x15 h13) (j17 undefA h13)) fun x18 h19 =>
joinV (fun j20 => p_no x16 (p_bin .gtr fiGtr x18 (.int .u64 (.ofNat 9223372036854775807)) fun x23 =>
j20 x23 h19) (j20 undefA h19)) fun x21 h22 =>
p_pick x16 vT x21 fun x24 =>
joinL (fun j25 => p_if x24 (
(fun (x28 : AV) => asIf (fun t29 x30 => kp (.iface t29 x30) h22) x28) (.iface 9 (.str [116, 104, 101, 32, 114, 101, 115, 117, 108, 116, 32, 111, 102, 32, 40, 108, 101, 110, 40, 120, 41, 32, 42, 32, 99, 111, 117, 110, 116, 41, 32, 111, 118, 101, 114, 102, 108, 111, 119, 115]))) (j25 [] h22)) fun l26 h27 =>
p_cvi .i64 x15 fun x31 =>
p_gen (.mkslice 1 8 [(vi 0)] (.t 29) (.t 29)) [(29, x31), (29, x31)] h27 fun x32 h33 k34 =>
p_gen (.copy 1 (.t 31) (.t 32)) [(31, x32), (32, (nthV A 0))] h33 fun x35 h36 k37 =>
joinL (fun j38 =>
loopB k (fun r41 l42 h43 =>
p_lenL x32 fun x44 =>
p_bin .lss fiLss (nthV l42 0) x44 fun x45 =>
joinL (fun j46 => p_if x45 (
j46 [] h43) (j38 [] h43)) fun l47 h48 =>
p_gen (.slc 1 (.t 39) (some (.t 40)) none none) [(39, x32), (40, (nthV l42 0))] h48 fun x49 h50 k51 =>
p_gen (.slc 1 (.t 42) none (some (.t 43)) none) [(42, x32), (43, (nthV l42 0))] h50 fun x52 h53 k54 =>
ifB (okAll k54 h50 h53 [⟨3, k51, h48, h50⟩]) (
p_gen (.copy 1 (.t 41) (.t 44)) [(41, x49), (44, x52)] h53 fun x55 h56 k57 =>
p_add (nthV l42 0) x55 fun x58 =>
r41 [x58] h56) false) [x35] h36) fun l39 h40 =>
kr x32 h40) kp) false
noncomputable def h74 : FBody := fun c D k A h kr kp => ifB (Nat.beq (lenV A) 3) (
asNil (
p_faddr 6 (nthV A 0) fun x0 =>
p_load1 x0 h fun x1 b2 =>
p_gen (.lookup (.one .str) (.agg [(vi 0), (vi 0), (vi 0)]) (.t 13) (.t 14) true) [(13, x1), (14, (nthV A 1))] h fun x3 h4 k5 =>
p_ext x3 0 fun x6 =>
p_ext x3 1 fun x7 =>
(fun (x8 : AV) (h9 : AHeap) =>
p_store 3 x8 x6 h9 fun h10 b11 =>
p_not x7 fun x12 =>
joinC (fun j13 => p_yes x12 (j13 (nthV A 0) h10 .free h10) (j13 undefA h10 .free h10)) fun x14 h15 k16 h17 =>
joinC (fun j18 => p_yes x12 (j18 (nthV A 1) h15 .free h15) (j18 undefA h15 .free h15)) fun x19 h20 k21 h22 =>
joinC (fun j23 => p_yes x12 (c 121 [x14, x19] h20 (fun x32 h33 =>
j23 x32 h33 .big h20) (fun p28 h29 => p_load1 (.ptr 5 0) h29 fun x30 b31 =>
ifB (okAll (.rd b31) h29 h29 [⟨5, .big, h20, h29⟩]) (
kp p28 h29) false)) (j23 undefA h20 .free h20)) fun x24 h25 k26 h27 =>
joinC (fun j34 => p_yes x12 (p_bin .lss fiLss x24 (vi 0) fun x39 =>
j34 x39 h25 .free h25) (j34 undefA h25 .free h25)) fun x35 h36 k37 h38 =>
p_pick x12 x35 vF fun x40 =>
p_load1 (.ptr 5 0) h36 fun x41 b42 =>
ifB (okAll (.rd b42) h36 h36 [⟨5, k26, h27, h25⟩]) (
c 38 [x40, x41, (nthV A 2)] h36 (fun x45 h46 =>
asNil (
p_faddr 10 (nthV A 0) fun x47 =>
p_load1 x47 h46 fun x48 b49 =>
p_bin .lss fiLss x48 (vi 32) fun x50 =>
p_load1 (.ptr 7 0) h46 fun x51 b52 =>
ifB (okAll (.rd b52) h46 h46 [⟨3, (.rd b49), h46, h46⟩]) (
c 38 [x50, x51, (nthV A 2)] h46 (fun x55 h56 =>
asNil (
p_faddr 10 (nthV A 0) fun x57 =>
p_load1 x57 h56 fun x58 b59 =>
onFill [(0, 1, x58)] [(vi 0)] fun l60 => ifB (flatsQ l60) ((fun (x61 : AV) (h62 : AHeap) =>
asNil (
p_faddr 8 (nthV A 0) fun x63 =>
p_load1 x63 h62 fun x64 b65 =>
ifB (okAll (.rd b65) h62 h62 [⟨17, .new, h56, h62⟩, ⟨16, (.rd b59), h56, h56⟩]) (
onFill [(0, 1, (nthV A 1))] [vS] fun l66 => ifB (flatsQ l66) ((fun (x67 : AV) (h68 : AHeap) =>
ifB (okAll .new h62 h68 [⟨5, (.rd b65), h62, h62⟩, ⟨17, .new, h56, h62⟩, ⟨16, (.rd b59), h56, h56⟩]) (
p_append 1 16 x64 x67 h68 fun x69 h70 =>
ifB (okAll .big h68 h70 [⟨17, .new, h56, h62⟩, ⟨16, (.rd b59), h56, h56⟩]) (
asNil (
p_faddr 9 (nthV A 0) fun x71 =>
p_load1 x71 h70 fun x72 b73 =>
ifB (okAll (.rd b73) h70 h70 [⟨8, .big, h68, h70⟩, ⟨7, .new, h62, h68⟩, ⟨5, (.rd b65), h62, h62⟩, ⟨17, .new, h56, h62⟩, ⟨16, (.rd b59), h56, h56⟩]) (
p_append 1 8 x72 x61 h70 fun x74 h75 =>
asNil (
p_faddr 8 (nthV A 0) fun x76 =>
p_store 1 x76 x69 h75 fun h77 b78 =>
asNil (
p_faddr 9 (nthV A 0) fun x79 =>
p_store 1 x79 x74 h77 fun h80 b81 =>
asNil (
p_faddr 10 (nthV A 0) fun x82 =>
p_load1 x82 h80 fun x83 b84 =>
p_add x83 (vi 1) fun x85 =>
asNil (
p_faddr 10 (nthV A 0) fun x86 =>
p_store 1 x86 x85 h80 fun h87 b88 =>
asNil (
p_faddr 10 (nthV A 0) fun x89 =>
p_load1 x89 h87 fun x90 b91 =>
p_bin .sub fiSub x90 (vi 1) fun x92 =>
kr x92 h87) (nthV A 0)) (nthV A 0)) (nthV A 0)) (nthV A 0)) (nthV A 0)) false) (nthV A 0)) false) false) (.slice h62.n (nat_lit 0) 1 1 true) (alQ h62 (.cells .own 1 l66))) false) false) (nthV A 0)) (.slice h56.n (nat_lit 0) 1 1 true) (alQ h56 (.cells .own 1 l60))) false) (nthV A 0)) kp) false) (nthV A 0)) kp) false) (.ptr h4.n (nat_lit 0)) (alQ h4 (.cells .own (nat_lit 0) [(vi 0), (vi 0), (vi 0)]))) (nthV A 0)) false
noncomputable def h75 : FBody := fun c D k A h kr kp => ifB (Nat.beq (lenV A) 2) (
p_box (nthV A 1) h fun x0 h1 =>
(fun (x2 : AV) (h3 : AHeap) =>
p_faddr 0 x0 fun x4 =>
p_load1 x4 h3 fun x5 b6 =>
c 122 [x5] h3 (fun x9 h10 =>
p_bin .neq fiNeq x9 (vi 0) fun x11 =>
joinL (fun j12 => p_if x11 (
p_faddr 2 x0 fun x15 =>
p_load1 x15 h10 fun x16 b17 =>
p_faddr 1 x0 fun x18 =>
p_load1 x18 h10 fun x19 b20 =>
c 123 [(nthV A 0), x16, x9, x19] h10 (fun x23 h24 =>
p_fld x23 1 fun x25 =>
p_faddr 6 x0 fun x26 =>
p_store 1 x26 x25 h24 fun h27 b28 =>
j12 [] h27) kp) (j12 [] h10)) fun l13 h14 =>
p_faddr 0 x0 fun x29 =>
p_load1 x29 h14 fun x30 b31 =>
joinL (fun j32 =>
p_eq x30 (vi 28) fun x35 =>
p_if x35 (p_faddr 2 x0 fun x36 =>
p_load1 x36 h14 fun x37 b38 =>
c 121 [(nthV A 0), x37] h14 (fun x41 h42 =>
p_bin .geq fiGeq x41 (vi 0) fun x43 =>
joinL (fun j44 => p_if x43 (
p_faddr 1 x0 fun x47 =>
p_load1 x47 h42 fun x48 b49 =>
onFill [(0, 1, (vi 32)), (1, 1, x48), (4, 1, x41)] [(vi 0), (vi 0), vS, (vi 0), (vi 0), (vi 0), (vi 0), (.int .u64 (.ofNat 0)), .nilSlice] fun l50 => (fun (x51 : AV) => p_store 9 x2 x51 h42 fun h52 b53 =>
p_loadN 9 x2 h52 fun x54 b55 => kr x54 h52) (.agg l50)) (j44 [] h42)) fun l45 h46 =>
p_faddr 1 x0 fun x56 =>
p_load1 x56 h46 fun x57 b58 =>
p_faddr 2 x0 fun x59 =>
p_load1 x59 h46 fun x60 b61 =>
ifB (okAll (.rd b61) h46 h46 [⟨1, (.rd b58), h46, h46⟩]) (
p_faddr 1 x0 fun x62 =>
p_load1 x62 h46 fun x63 b64 =>
ifB (okAll (.rd b64) h46 h46 [⟨4, (.rd b61), h46, h46⟩, ⟨1, (.rd b58), h46, h46⟩]) (
c 123 [(nthV A 0), x60, (vi 2), x63] h46 (fun x67 h68 =>
ifB (okAll .big h46 h68 [⟨1, (.rd b58), h46, h46⟩]) (
p_fld x67 1 fun x69 =>
onFill [(0, 1, (vi 33)), (1, 1, x57), (4, 1, x69)] [(vi 0), (vi 0), vS, (vi 0), (vi 0), (vi 0), (vi 0), (.int .u64 (.ofNat 0)), .nilSlice] fun l70 => (fun (x71 : AV) => p_store 9 x2 x71 h68 fun h72 b73 =>
p_loadN 9 x2 h72 fun x74 b75 => kr x74 h72) (.agg l70)) false) (fun p65 h66 => ifB (okAll .big h46 h66 [⟨1, (.rd b58), h46, h46⟩]) (
kp p65 h66) false)) false) false) kp) (p_eq x30 (vi 29) fun x76 =>
p_if x76 (p_faddr 2 x0 fun x77 =>
p_load1 x77 h14 fun x78 b79 =>
p_faddr 1 x0 fun x80 =>
p_load1 x80 h14 fun x81 b82 =>
c 123 [(nthV A 0), x78, (vi 3), x81] h14 (fun x85 h86 =>
(fun (x87 : AV) (h88 : AHeap) =>
p_store 3 x87 x85 h88 fun h89 b90 =>
p_faddr 1 x87 fun x91 =>
p_load1 x91 h89 fun x92 b93 =>
p_faddr 2 x87 fun x94 =>
p_load1 x94 h89 fun x95 b96 =>
ifB (okAll (.rd b96) h89 h89 [⟨1, (.rd b93), h89, h89⟩]) (
p_faddr 0 x0 fun x97 =>
p_store 1 x97 (vi 34) h89 fun h98 b99 =>
ifB (okAll (.wr b99) h89 h98 [⟨3, (.rd b96), h89, h89⟩, ⟨1, (.rd b93), h89, h89⟩]) (
p_faddr 2 x0 fun x100 =>
p_store 1 x100 vS h98 fun h101 b102 =>
ifB (okAll (.wr b102) h98 h101 [⟨3, (.rd b96), h89, h89⟩, ⟨1, (.rd b93), h89, h89⟩]) (
p_faddr 4 x0 fun x103 =>
p_store 1 x103 x92 h101 fun h104 b105 =>
ifB (okAll (.wr b105) h101 h104 [⟨3, (.rd b96), h89, h89⟩]) (
p_faddr 5 x0 fun x106 =>
p_store 1 x106 x95 h104 fun h107 b108 =>
j32 [] h107) false) false) false) false) (.ptr h86.n (nat_lit 0)) (alQ h86 (.cells .own (nat_lit 0) [(vi 0), (vi 0), (vi 0)]))) kp) (j32 [] h14))) fun l33 h34 =>
asNil (
p_faddr 8 (nthV A 0) fun x109 =>
p_load1 x109 h34 fun x110 b111 =>
p_lenL x110 fun x112 =>
p_faddr 8 x0 fun x113 =>
p_load1 x113 h34 fun x114 b115 =>
p_lenL x114 fun x116 =>
joinL (fun j117 =>
loopB k (fun r120 l121 h122 =>
p_bin .lss fiLss (nthV l121 1) x116 fun x123 =>
joinL (fun j124 => p_if x123 (
j124 [] h122) (j117 [(nthV l121 0)] h122)) fun l125 h126 =>
joinL (fun j127 =>
p_iaddr 9 x114 (nthV l121 1) fun x130 =>
p_loadN 9 x130 h126 fun x131 b132 =>
(fun (x133 : AV) (h134 : AHeap) =>
p_store 9 x133 x131 h134 fun h135 b136 =>
p_loadN 9 x133 h135 fun x137 b138 =>
c 75 [(nthV A 0), x137] h135 (fun x141 h142 =>
onFill [(0, 9, x141)] [(vi 0), (vi 0), vS, (vi 0), (vi 0), (vi 0), (vi 0), (.int .u64 (.ofNat 0)), .nilSlice] fun l143 => ifB (flatsQ l143) ((fun (x144 : AV) (h145 : AHeap) =>
p_append 9 96 (nthV l121 0) x144 h145 fun x146 h147 =>
j127 [x146] h147) (.slice h142.n (nat_lit 0) 1 1 true) (alQ h142 (.cells .own 9 l143))) false) kp) (.ptr h126.n (nat_lit 0)) (alQ h126 (.cells .own (nat_lit 0) [(vi 0), (vi 0), vS, (vi 0), (vi 0), (vi 0), (vi 0), (.int .u64 (.ofNat 0)), .nilSlice]))) fun l128 h129 =>
p_add (nthV l121 1) (vi 1) fun x148 =>
r120 [(nthV l128 0), x148] h129) [.nilSlice, (vi 0)] h34) fun l118 h119 =>
p_faddr 8 x0 fun x149 =>
p_store 1 x149 (nthV l118 0) h119 fun h150 b151 =>
p_faddr 0 x0 fun x152 =>
p_load1 x152 h150 fun x153 b154 =>
joinL (fun j155 =>
p_eq x153 (vi 9) fun x158 =>
p_if x158 (asNil (
p_faddr 8 (nthV A 0) fun x159 =>
p_load1 x159 h150 fun x160 b161 =>
p_gen (.slc 1 (.t 96) none (some (.t 97)) none) [(96, x160), (97, x112)] h150 fun x162 h163 k164 =>
asNil (
p_faddr 9 (nthV A 0) fun x165 =>
p_load1 x165 h163 fun x166 b167 =>
ifB (okAll (.rd b167) h163 h163 [⟨7, k164, h150, h163⟩, ⟨5, (.rd b161), h150, h150⟩]) (
p_gen (.slc 1 (.t 102) none (some (.t 103)) none) [(102, x166), (103, x112)] h163 fun x168 h169 k170 =>
ifB (okAll k170 h163 h169 [⟨7, k164, h150, h163⟩, ⟨5, (.rd b161), h150, h150⟩]) (
asNil (
p_faddr 8 (nthV A 0) fun x171 =>
p_store 1 x171 x162 h169 fun h172 b173 =>
ifB (okAll (.wr b173) h169 h172 [⟨13, k170, h163, h169⟩]) (
asNil (
p_faddr 9 (nthV A 0) fun x174 =>
p_store 1 x174 x168 h172 fun h175 b176 =>
j155 [] h175) (nthV A 0)) false) (nthV A 0)) false) false) (nthV A 0)) (nthV A 0)) (p_eq x153 (vi 11) fun x177 =>
p_if x177 (p_faddr 2 x0 fun x178 =>
p_load1 x178 h150 fun x179 b180 =>
p_faddr 1 x0 fun x181 =>
p_load1 x181 h150 fun x182 b183 =>
c 74 [(nthV A 0), x179, x182] h150 (fun x186 h187 =>
p_faddr 4 x0 fun x188 =>
p_store 1 x188 x186 h187 fun h189 b190 =>
j155 [] h189) kp) (j155 [] h150))) fun l156 h157 =>
p_loadN 9 x0 h157 fun x191 b192 =>
p_store 9 x2 x191 h157 fun h193 b194 =>
p_loadN 9 x2 h193 fun x195 b196 => kr x195 h193) (nthV A 0)) kp) (.ptr h1.n (nat_lit 0)) (alQ h1 (.cells .own (nat_lit 0) [(vi 0), (vi 0), vS, (vi 0), (vi 0), (vi 0), (vi 0), (.int .u64 (.ofNat 0)), .nilSlice]))) false
noncomputable def h81 : FBody := fun c D k A h kr kp => ifB (Nat.beq (lenV A) 1) (
(fun (x0 : AV) (h1 : AHeap) =>
(fun (x2 : AV) (h3 : AHeap) =>
p_lenS (nthV A 0) fun x4 =>
p_bin .gtr fiGtr x4 (vi 8192) fun x5 =>
joinL (fun j6 => p_if x5 (
p_load1 (.ptr 7 0) h3 fun x9 b10 =>
onFill [(0, 1, x9)] [.nilIface, (vi 0)] fun l11 => (fun (x12 : AV) => p_store 1 x0 .nilSlice h3 fun h13 b14 =>
ifB (okAll (.wr b14) h3 h13 [⟨1, .free, h3, h3⟩, ⟨0, (.rd b10), h3, h3⟩]) (
p_store 2 x2 x12 h13 fun h15 b16 =>
p_load1 x0 h15 fun x17 b18 => p_loadN 2 x2 h15 fun x19 b20 => kr (.tuple [x17, x19]) h15) false) (.agg l11)) (j6 [] h3)) fun l7 h8 =>
(fun (x21 : AV) => p_fn x21 fun g22 a23 b24 => (fun (l25 : List AV) =>
onFill [(0, 1, (nthV A 0))] [vS, (vi 0)] fun l26 => (fun (x27 : AV) => p_box x27 h8 fun x28 h29 =>
c 125 [x28] h29 (fun x37 h38 =>
joinL (fun j39 =>
loopB k (fun r42 l43 h44 =>
asNil (
p_faddr 1 x28 fun x45 =>
p_load1 x45 h44 fun x46 b47 =>
p_lenS (nthV A 0) fun x48 =>
p_bin .lss fiLss x46 x48 fun x49 =>
joinL (fun j50 => p_if x49 (
j50 [] h44) (j39 [] h44)) fun l51 h52 =>
joinL (fun j53 =>
p_load1 x0 h52 fun x56 b57 =>
p_lenL x56 fun x58 =>
p_eq x58 (vi 2000) fun x59 =>
joinL (fun j60 => p_if x59 (
p_load1 (.ptr 7 0) h52 fun x63 b64 =>
asNil (
p_faddr 1 x28 fun x65 =>
p_load1 x65 h52 fun x66 b67 =>
ifB (okAll (.rd b67) h52 h52 [⟨1, (.rd b64), h52, h52⟩]) (
c 126 [x28, x63, x66] h52 (fun x75 h76 =>
j60 [] h76) (fun p68 h69 => D g22 l25 (.pan p68) h69 fun h70 =>
p_load1 x0 h70 fun x71 b72 => p_loadN 2 x2 h70 fun x73 b74 => kr (.tuple [x71, x73]) h70)) false) x28) (j60 [] h52)) fun l61 h62 =>
p_load1 x0 h62 fun x77 b78 =>
c 127 [x28] h62 (fun x86 h87 =>
ifB (okAll .big h62 h87 [⟨0, (.rd b78), h62, h62⟩]) (
onFill [(0, 5, x86)] [(vi 0), vS, (vi 0), (.int .u64 (.ofNat 0)), (vi 0)] fun l88 => ifB (flatsQ l88) ((fun (x89 : AV) (h90 : AHeap) =>
ifB (okAll .new h87 h90 [⟨0, (.rd b78), h62, h62⟩]) (
p_append 5 48 x77 x89 h90 fun x91 h92 =>
p_store 1 x0 x91 h92 fun h93 b94 =>
j53 [] h93) false) (.slice h87.n (nat_lit 0) 1 1 true) (alQ h87 (.cells .own 5 l88))) false) false) (fun p79 h80 => ifB (okAll .big h62 h80 [⟨0, (.rd b78), h62, h62⟩]) (
D g22 l25 (.pan p79) h80 fun h81 =>
p_load1 x0 h81 fun x82 b83 => p_loadN 2 x2 h81 fun x84 b85 => kr (.tuple [x82, x84]) h81) false)) fun l54 h55 =>
c 125 [x28] h55 (fun x102 h103 =>
r42 [] h103) (fun p95 h96 => D g22 l25 (.pan p95) h96 fun h97 =>
p_load1 x0 h97 fun x98 b99 => p_loadN 2 x2 h97 fun x100 b101 => kr (.tuple [x98, x100]) h97)) x28) [] h38) fun l40 h41 =>
p_load1 x0 h41 fun x104 b105 =>
onFill [] [.nilIface, (vi 0)] fun l106 => (fun (x107 : AV) => p_store 1 x0 x104 h41 fun h108 b109 =>
p_store 2 x2 x107 h108 fun h110 b111 =>
D g22 l25 .ret h110 fun h112 =>
p_load1 x0 h112 fun x113 b114 => p_loadN 2 x2 h112 fun x115 b116 => kr (.tuple [x113, x115]) h112) (.agg l106)) (fun p30 h31 => D g22 l25 (.pan p30) h31 fun h32 =>
p_load1 x0 h32 fun x33 b34 => p_loadN 2 x2 h32 fun x35 b36 => kr (.tuple [x33, x35]) h32)) (.agg l26)) (appL a23 b24)) (.func (.func 124) [] [x0, x2])) (.ptr h1.n (nat_lit 0)) (alQ h1 (.cells .own (nat_lit 0) [.nilIface, (vi 0)]))) (.ptr h.n (nat_lit 0)) (alQ h (.cells .own (nat_lit 0) [.nilSlice]))) false
noncomputable def d82 : FDBody := fun c k A lv h K => ifB (Nat.beq (lenV A) 2) (
p_eqv true (.one .iface) (lvQ lv) .nilIface fun x0 =>
p_if x0 (p_gen (.tassert 137 (.agg [.nilIface, (vi 0)]) (.t 9)) [(9, (lvQ lv))] h fun x1 h2 k3 =>
p_ext x1 0 fun x4 =>
p_ext x1 1 fun x5 =>
(fun (x6 : AV) (h7 : AHeap) =>
p_store 2 x6 x4 h7 fun h8 b9 =>
p_not x5 fun x10 =>
joinL (fun j11 => p_if x10 (
asIf (fun t14 x15 => false) (lvQ lv)) (j11 [] h8)) fun l12 h13 =>
onFill [] [(vi 0), (vi 0), vS, (vi 0), (vi 0), (vi 0), (vi 0), (.int .u64 (.ofNat 0)), .nilSlice] fun l16 => (fun (x17 : AV) => p_faddr 0 x6 fun x18 =>
p_loadN 2 x18 h13 fun x19 b20 =>
ifB (okAll (.rd b20) h13 h13 [⟨0, .free, h13, h13⟩]) (
p_store 9 (nthV A 0) x17 h13 fun h21 b22 =>
ifB (okAll (.wr b22) h13 h21 [⟨2, (.rd b20), h13, h13⟩]) (
p_store 2 (nthV A 1) x19 h21 fun h23 b24 =>
K h23) false) false) (.agg l16)) (.ptr h2.n (nat_lit 0)) (alQ h2 (.cells .own (nat_lit 0) [.nilIface, (vi 0)]))) (K h)) false
noncomputable def h83 : FBody := fun c D k A h kr kp => ifB (Nat.beq (lenV A) 1) (
p_load1 (.ptr 3 0) h fun x0 b1 =>
c 49 [(nthV A 0)] h (fun x4 h5 =>
ifB (okAll .big h h5 [⟨0, (.rd b1), h, h⟩]) (
p_fld x4 4 fun x6 =>
onFill [(0, 1, x0), (1, 1, x6)] [.nilIface, (vi 0)] fun l7 => (fun (x8 : AV) => onFill [(0, 2, x8)] [.nilIface, (vi 0)] fun l9 => (fun (x10 : AV) => (fun (x11 : AV) => asIf (fun t12 x13 => kp (.iface t12 x13) h5) x11) (.iface 137 x10)) (.agg l9)) (.agg l7)) false) (fun p2 h3 => ifB (okAll .big h h3 [⟨0, (.rd b1), h, h⟩]) (
kp p2 h3) false)) false
noncomputable def h84 : FBody := fun c D k A h kr kp => ifB (Nat.beq (lenV A) 2) (
c 49 [(nthV A 0)] h (fun x2 h3 =>
(fun (x4 : AV) (h5 : AHeap) =>
p_store 5 x4 x2 h5 fun h6 b7 =>
p_faddr 0 x4 fun x8 =>
p_load1 x8 h6 fun x9 b10 =>
p_eq x9 (vi 2) fun x11 =>
joinV (fun j12 => p_no x11 (p_faddr 0 x4 fun x15 =>
j12 x15 h6) (j12 undefA h6)) fun x13 h14 =>
joinV (fun j16 => p_no x11 (p_load1 x13 h14 fun x19 b20 =>
j16 x19 h14) (j16 undefA h14)) fun x17 h18 =>
joinV (fun j21 => p_no x11 (p_eq x17 (vi 5) fun x24 =>
j21 x24 h18) (j21 undefA h18)) fun x22 h23 =>
p_pick x11 vT x22 fun x25 =>
joinV (fun j26 => p_yes x25 (j26 (nthV A 1) h23) (j26 undefA h23)) fun x27 h28 =>
joinV (fun j29 => p_yes x25 (p_faddr 1 x4 fun x32 =>
j29 x32 h28) (j29 undefA h28)) fun x30 h31 =>
joinV (fun j33 => p_yes x25 (p_load1 x30 h31 fun x36 b37 =>
j33 x36 h31) (j33 undefA h31)) fun x34 h35 =>
joinV (fun j38 => p_yes x25 (c 128 [x27, x34] h35 (fun x43 h44 =>
j38 x43 h44) kp) (j38 undefA h35)) fun x39 h40 =>
p_pick x25 x39 vF fun x45 =>
kr x45 h40) (.ptr h3.n (nat_lit 0)) (alQ h3 (.cells .own (nat_lit 0) [(vi 0), vS, (vi 0), (.int .u64 (.ofNat 0)), (vi 0)]))) kp) false
noncomputable def h85 : FBody := fun c D k A h kr kp => ifB (Nat.beq (lenV A) 2) (
(fun (x0 : AV) (h1 : AHeap) =>
c 49 [(nthV A 0)] h1 (fun x4 h5 =>
(fun (x6 : AV) (h7 : AHeap) =>
p_store 5 x6 x4 h7 fun h8 b9 =>
p_faddr 0 x6 fun x10 =>
p_load1 x10 h8 fun x11 b12 =>
p_bin .neq fiNeq x11 (nthV A 1) fun x13 =>
joinL (fun j14 => p_if x13 (
c 83 [(nthV A 0)] h8 (fun x19 h20 =>
j14 [] h20) kp) (j14 [] h8)) fun l15 h16 =>
asNil (
p_faddr 0 (nthV A 0) fun x21 =>
p_load1 x21 h16 fun x22 b23 =>
p_gen (.slc 5 (.t 18) (some (.c (vi 1))) none none) [(18, x22)] h16 fun x24 h25 k26 =>
asNil (
p_faddr 0 (nthV A 0) fun x27 =>
p_store 1 x27 x24 h25 fun h28 b29 =>
p_loadN 5 x6 h28 fun x30 b31 =>
p_store 5 x0 x30 h28 fun h32 b33 =>
p_loadN 5 x0 h32 fun x34 b35 => kr x34 h32) (nthV A 0)) (nthV A 0)) (.ptr h5.n (nat_lit 0)) (alQ h5 (.cells .own (nat_lit 0) [(vi 0), vS, (vi 0), (.int .u64 (.ofNat 0)), (vi 0)]))) kp) (.ptr h.n (nat_lit 0)) (alQ h (.cells .own (nat_lit 0) [(vi 0), vS, (vi 0), (.int .u64 (.ofNat 0)), (vi 0)]))) false
noncomputable def h86 : FBody := fun c D k A h kr kp => ifB (Nat.beq (lenV A) 1) (
c 90 [(nthV A 0), (.str [91])] h (fun x2 h3 =>
c 85 [(nthV A 0), (vi 3)] h3 (fun x6 h7 =>
p_fld x6 2 fun x8 =>
c 90 [(nthV A 0), (.str [93])] h7 (fun x11 h12 =>
kr x8 h12) kp) kp) kp) false
noncomputable def h87 : FBody := fun c D k A h kr kp => ifB (Nat.beq (lenV A) 1) (
onFill [(0, 1, (.str [105, 110, 116])), (1, 1, (.str [102, 108, 111, 97, 116])), (2, 1, (.str [98, 111, 111, 108]))] [vS, vS, vS] fun l0 => ifB (flatsQ l0) ((fun (x1 : AV) (h2 : AHeap) =>
c 49 [(nthV A 0)] h2 (fun x5 h6 =>
p_fld x5 1 fun x7 =>
c 129 [x1, x7] h6 (fun x10 h11 =>
c 49 [(nthV A 0)] h11 (fun x14 h15 =>
p_fld x14 0 fun x16 =>
p_bin .neq fiNeq x16 (vi 2) fun x17 =>
joinV (fun j18 => p_no x17 (j18 x10 h15) (j18 undefA h15)) fun x19 h20 =>
joinV (fun j21 => p_no x17 (p_bin .lss fiLss x19 (vi 0) fun x24 =>
j21 x24 h20) (j21 undefA h20)) fun x22 h23 =>
p_pick x17 vT x22 fun x25 =>
joinL (fun j26 => p_if x25 (
c 83 [(nthV A 0)] h23 (fun x31 h32 =>
j26 [] h32) kp) (j26 [] h23)) fun l27 h28 =>
asNil (
p_faddr 0 (nthV A 0) fun x33 =>
p_load1 x33 h28 fun x34 b35 =>
p_gen (.slc 5 (.t 23) (some (.c (vi 1))) none none) [(23, x34)] h28 fun x36 h37 k38 =>
asNil (
p_faddr 0 (nthV A 0) fun x39 =>
p_store 1 x39 x36 h37 fun h40 b41 =>
p_add (vi 1) x10 fun x42 =>
kr x42 h40) (nthV A 0)) (nthV A 0)) kp) kp) kp) (.slice h.n (nat_lit 0) 3 3 true) (alQ h (.cells .own 1 l0))) false) false
noncomputable def h88 : FBody := fun c D k A h kr kp => ifB (Nat.beq (lenV A) 2) (
c 90 [(nthV A 0), (.str [40])] h (fun x2 h3 =>
onFill [(0, 1, (.str [41]))] [vS] fun l4 => ifB (flatsQ l4) ((fun (x5 : AV) (h6 : AHeap) =>
c 84 [(nthV A 0), x5] h6 (fun x9 h10 =>
p_not x9 fun x11 =>
joinL (fun j12 =>
loopB k (fun r15 l16 h17 =>
joinL (fun j18 => p_if (nthV l16 0) (
j18 [] h17) (j12 [] h17)) fun l19 h20 =>
joinL (fun j21 =>
c 85 [(nthV A 0), (vi 1)] h20 (fun x26 h27 =>
(fun (x28 : AV) (h29 : AHeap) =>
p_store 5 x28 x26 h29 fun h30 b31 =>
onFill [(0, 9, (.agg [(vi 0), (vi 0), vS, (vi 0), (vi 0), (vi 0), (vi 0), (.int .u64 (.ofNat 0)), .nilSlice]))] [(vi 0), (vi 0), vS, (vi 0), (vi 0), (vi 0), (vi 0), (.int .u64 (.ofNat 0)), .nilSlice] fun l32 => ifB (flatsQ l32) ((fun (x33 : AV) (h34 : AHeap) =>
asNil (
p_faddr 8 (nthV A 1) fun x35 =>
p_load1 x35 h34 fun x36 b37 =>
ifB (okAll (.rd b37) h34 h34 [⟨12, .new, h30, h34⟩]) (
p_faddr 4 x28 fun x38 =>
p_load1 x38 h34 fun x39 b40 =>
ifB (okAll (.rd b40) h34 h34 [⟨3, (.rd b37), h34, h34⟩, ⟨12, .new, h30, h34⟩]) (
p_faddr 1 x28 fun x41 =>
p_load1 x41 h34 fun x42 b43 =>
ifB (okAll (.rd b43) h34 h34 [⟨5, (.rd b40), h34, h34⟩, ⟨3, (.rd b37), h34, h34⟩, ⟨12, .new, h30, h34⟩]) (
c 87 [(nthV A 0)] h34 (fun x47 h48 =>
ifB (okAll .big h34 h48 [⟨7, (.rd b43), h34, h34⟩, ⟨5, (.rd b40), h34, h34⟩, ⟨3, (.rd b37), h34, h34⟩, ⟨12, .new, h30, h34⟩]) (
onFill [(0, 1, (vi 8)), (1, 1, x39), (2, 1, x42), (3, 1, x47)] [(vi 0), (vi 0), vS, (vi 0), (vi 0), (vi 0), (vi 0), (.int .u64 (.ofNat 0)), .nilSlice] fun l49 => (fun (x50 : AV) => ifB (okAll .free h48 h48 [⟨3, (.rd b37), h34, h34⟩, ⟨12, .new, h30, h34⟩]) (
p_lenL x36 fun x51 =>
p_append 9 96 x36 x33 h48 fun x52 h53 =>
p_iaddr 9 x52 x51 fun x54 =>
p_store 9 x54 x50 h53 fun h55 b56 =>
asNil (
p_faddr 8 (nthV A 1) fun x57 =>
p_store 1 x57 x52 h55 fun h58 b59 =>
ifB (okAll (.wr b59) h55 h58 [⟨15, (.wr b56), h53, h55⟩]) (
asNil (
p_faddr 4 (nthV A 1) fun x60 =>
p_load1 x60 h58 fun x61 b62 =>
p_add x61 (vi 1) fun x63 =>
asNil (
p_faddr 4 (nthV A 1) fun x64 =>
p_store 1 x64 x63 h58 fun h65 b66 =>
j21 [] h65) (nthV A 1)) (nthV A 1)) false) (nthV A 1)) false) (.agg l49)) false) (fun p44 h45 => ifB (okAll .big h34 h45 [⟨7, (.rd b43), h34, h34⟩, ⟨5, (.rd b40), h34, h34⟩, ⟨3, (.rd b37), h34, h34⟩, ⟨12, .new, h30, h34⟩]) (
p_lenL x36 fun x46 =>
kp p44 h45) false)) false) false) false) (nthV A 1)) (.slice h30.n (nat_lit 0) 1 1 true) (alQ h30 (.cells .own 9 l32))) false) (.ptr h27.n (nat_lit 0)) (alQ h27 (.cells .own (nat_lit 0) [(vi 0), vS, (vi 0), (.int .u64 (.ofNat 0)), (vi 0)]))) kp) fun l22 h23 =>
c 130 [(nthV A 0), (.str [44])] h23 (fun x69 h70 =>
r15 [x69] h70) kp) [x11] h10) fun l13 h14 =>
c 90 [(nthV A 0), (.str [41])] h14 (fun x73 h74 =>
kr undefA h74) kp) kp) (.slice h3.n (nat_lit 0) 1 1 true) (alQ h3 (.cells .own 1 l4))) false) kp) false
noncomputable def h89 : FBody := fun c D k A h kr kp => ifB (Nat.beq (lenV A) 1) (
(fun (x0 : AV) (h1 : AHeap) =>
c 131 [(nthV A 0), (.str [123])] h1 (fun x4 h5 =>
p_fld x4 4 fun x6 =>
onFill [(0, 1, (vi 9)), (1, 1, x6)] [(vi 0), (vi 0), vS, (vi 0), (vi 0), (vi 0), (vi 0), (.int .u64 (.ofNat 0)), .nilSlice] fun l7 => (fun (x8 : AV) => (fun (x9 : AV) (h10 : AHeap) =>
p_store 9 x9 x8 h10 fun h11 b12 =>
joinL (fun j13 =>
loopB k (fun r16 l17 h18 =>
onFill [(0, 1, (.str [125]))] [vS] fun l19 => ifB (flatsQ l19) ((fun (x20 : AV) (h21 : AHeap) =>
c 84 [(nthV A 0), x20] h21 (fun x24 h25 =>
p_not x24 fun x26 =>
joinL (fun j27 => p_if x26 (
j27 [] h25) (j13 [] h25)) fun l28 h29 =>
p_faddr 8 x9 fun x30 =>
p_load1 x30 h29 fun x31 b32 =>
c 132 [(nthV A 0)] h29 (fun x35 h36 =>
ifB (okAll .big h29 h36 [⟨1, (.rd b32), h29, h29⟩]) (
onFill [(0, 9, x35)] [(vi 0), (vi 0), vS, (vi 0), (vi 0), (vi 0), (vi 0), (.int .u64 (.ofNat 0)), .nilSlice] fun l37 => ifB (flatsQ l37) ((fun (x38 : AV) (h39 : AHeap) =>
ifB (okAll .new h36 h39 [⟨1, (.rd b32), h29, h29⟩]) (
p_append 9 96 x31 x38 h39 fun x40 h41 =>
p_faddr 8 x9 fun x42 =>
p_store 1 x42 x40 h41 fun h43 b44 =>
r16 [] h43) false) (.slice h36.n (nat_lit 0) 1 1 true) (alQ h36 (.cells .own 9 l37))) false) false) (fun p33 h34 => ifB (okAll .big h29 h34 [⟨1, (.rd b32), h29, h29⟩]) (
kp p33 h34) false)) kp) (.slice h18.n (nat_lit 0) 1 1 true) (alQ h18 (.cells .own 1 l19))) false) [] h11) fun l14 h15 =>
c 133 [(nthV A 0), (.str [125])] h15 (fun x47 h48 =>
p_loadN 9 x9 h48 fun x49 b50 =>
p_store 9 x0 x49 h48 fun h51 b52 =>
p_loadN 9 x0 h51 fun x53 b54 => kr x53 h51) kp) (.ptr h5.n (nat_lit 0)) (alQ h5 (.cells .own (nat_lit 0) [(vi 0), (vi 0), vS, (vi 0), (vi 0), (vi 0), (vi 0), (.int .u64 (.ofNat 0)), .nilSlice]))) (.agg l7)) kp) (.ptr h.n (nat_lit 0)) (alQ h (.cells .own (nat_lit 0) [(vi 0), (vi 0), vS, (vi 0), (vi 0), (vi 0), (vi 0), (.int .u64 (.ofNat 0)), .nilSlice]))) false
noncomputable def h90 : FBody := fun c D k A h kr kp => ifB (Nat.beq (lenV A) 2) (
(fun (x0 : AV) (h1 : AHeap) =>
onFill [(0, 1, (nthV A 1))] [vS] fun l2 => ifB (flatsQ l2) ((fun (x3 : AV) (h4 : AHeap) =>
c 84 [(nthV A 0), x3] h4 (fun x7 h8 =>
p_not x7 fun x9 =>
joinL (fun j10 => p_if x9 (
c 83 [(nthV A 0)] h8 (fun x15 h16 =>
j10 [] h16) kp) (j10 [] h8)) fun l11 h12 =>
c 49 [(nthV A 0)] h12 (fun x19 h20 =>
(fun (x21 : AV) (h22 : AHeap) =>
p_store 5 x21 x19 h22 fun h23 b24 =>
asNil (
p_faddr 0 (nthV A 0) fun x25 =>
p_load1 x25 h23 fun x26 b27 =>
p_gen (.slc 5 (.t 19) (some (.c (vi 1))) none none) [(19, x26)] h23 fun x28 h29 k30 =>
asNil (
p_faddr 0 (nthV A 0) fun x31 =>
p_store 1 x31 x28 h29 fun h32 b33 =>
p_loadN 5 x21 h32 fun x34 b35 =>
p_store 5 x0 x34 h32 fun h36 b37 =>
p_loadN 5 x0 h36 fun x38 b39 => kr x38 h36) (nthV A 0)) (nthV A 0)) (.ptr h20.n (nat_lit 0)) (alQ h20 (.cells .own (nat_lit 0) [(vi 0), vS, (vi 0), (.int .u64 (.ofNat 0)), (vi 0)]))) kp) kp) (.slice h1.n (nat_lit 0) 1 1 true) (alQ h1 (.cells .own 1 l2))) false) (.ptr h.n (nat_lit 0)) (alQ h (.cells .own (nat_lit 0) [(vi 0), vS, (vi 0), (.int .u64 (.ofNat 0)), (vi 0)]))) false
noncomputable def h96 : FBody := fun c D k A h kr kp => ifB (Nat.beq (lenV A) 1) (
(fun (x0 : AV) (h1 : AHeap) =>
(fun (x2 : AV) => onFill [(0, 1, (.str [124, 124]))] [vS] fun l3 => ifB (flatsQ l3) ((fun (x4 : AV) (h5 : AHeap) =>
c 136 [(nthV A 0), x2, vT, x4] h5 (fun x8 h9 =>
p_store 9 x0 x8 h9 fun h10 b11 =>
p_loadN 9 x0 h10 fun x12 b13 => kr x12 h10) kp) (.slice h1.n (nat_lit 0) 1 1 true) (alQ h1 (.cells .own 1 l3))) false) (.func (.func 137) [(nthV A 0)] [])) (.ptr h.n (nat_lit 0)) (alQ h (.cells .own (nat_lit 0) [(vi 0), (vi 0), vS, (vi 0), (vi 0), (vi 0), (vi 0), (.int .u64 (.ofNat 0)), .nilSlice]))) false
noncomputable def d97 : FDBody := fun c k A lv h K => ifB (Nat.beq (lenV A) 1) (
p_eqv true (.one .iface) (lvQ lv) .nilIface fun x0 =>
p_if x0 (p_gen (.tassert 154 (.agg []) (.t 8)) [(8, (lvQ lv))] h fun x1 h2 k3 =>
p_ext x1 0 fun x4 =>
p_ext x1 1 fun x5 =>
(fun (x6 : AV) (h7 : AHeap) =>
p_store 0 x6 x4 h7 fun h8 b9 =>
p_not x5 fun x10 =>
joinL (fun j11 => p_if x10 (
asIf (fun t14 x15 => false) (lvQ lv)) (j11 [] h8)) fun l12 h13 =>
p_load1 (.ptr 0 0) h13 fun x16 b17 =>
p_store 1 (nthV A 0) x16 h13 fun h18 b19 =>
K h18) (.ptr h2.n (nat_lit 0)) (alQ h2 (.cells .own (nat_lit 0) []))) (K h)) false
noncomputable def h98 : FBody := fun c D k A h kr kp => ifB (Nat.beq (lenV A) 2) (
p_box (nthV A 0) h fun x0 h1 =>
p_not (nthV A 1) fun x2 =>
p_if x2 (onFill [] [] fun l3 => (fun (x4 : AV) => (fun (x5 : AV) => asIf (fun t6 x7 => kp (.iface t6 x7) h1) x5) (.iface 154 x4)) (.agg l3)) (kr undefA h1)) false
noncomputable def h99 : FBody := fun c D k A h kr kp => ifB (Nat.beq (lenV A) 3) (
p_box (nthV A 0) h fun x0 h1 =>
p_box (nthV A 1) h1 fun x2 h3 =>
p_box (nthV A 2) h3 fun x4 h5 =>
p_faddr 0 x2 fun x6 =>
p_load1 x6 h5 fun x7 b8 =>
p_faddr 1 x2 fun x9 =>
p_load1 x9 h5 fun x10 b11 =>
ifB (okAll (.rd b11) h5 h5 [⟨1, (.rd b8), h5, h5⟩]) (
p_faddr 0 x4 fun x12 =>
p_store 1 x12 x7 h5 fun h13 b14 =>
ifB (okAll (.wr b14) h5 h13 [⟨3, (.rd b11), h5, h5⟩]) (
p_faddr 1 x4 fun x15 =>
p_store 1 x15 x10 h13 fun h16 b17 =>
p_faddr 8 x4 fun x18 =>
p_store 1 x18 .nilSlice h16 fun h19 b20 =>
p_faddr 8 x2 fun x21 =>
p_store 1 x21 .nilSlice h19 fun h22 b23 =>
p_loadN 0 x0 h22 fun x24 b25 =>
p_faddr 2 x2 fun x26 =>
p_load1 x26 h22 fun x27 b28 =>
p_faddr 2 x4 fun x29 =>
p_load1 x29 h22 fun x30 b31 =>
p_eq x27 x30 fun x32 =>
joinV (fun j33 => p_yes x32 (p_faddr 3 x2 fun x36 =>
j33 x36 h22) (j33 undefA h22)) fun x34 h35 =>
joinV (fun j37 => p_yes x32 (p_load1 x34 h35 fun x40 b41 =>
j37 x40 h35) (j37 undefA h35)) fun x38 h39 =>
joinV (fun j42 => p_yes x32 (p_faddr 3 x4 fun x45 =>
j42 x45 h39) (j42 undefA h39)) fun x43 h44 =>
joinV (fun j46 => p_yes x32 (p_load1 x43 h44 fun x49 b50 =>
j46 x49 h44) (j46 undefA h44)) fun x47 h48 =>
joinV (fun j51 => p_yes x32 (p_eq x38 x47 fun x54 =>
j51 x54 h48) (j51 undefA h48)) fun x52 h53 =>
p_pick x32 x52 vF fun x55 =>
joinV (fun j56 => p_yes x55 (p_faddr 4 x2 fun x59 =>
j56 x59 h53) (j56 undefA h53)) fun x57 h58 =>
joinV (fun j60 => p_yes x55 (p_load1 x57 h58 fun x63 b64 =>
j60 x63 h58) (j60 undefA h58)) fun x61 h62 =>
joinV (fun j65 => p_yes x55 (p_faddr 4 x4 fun x68 =>
j65 x68 h62) (j65 undefA h62)) fun x66 h67 =>
joinV (fun j69 => p_yes x55 (p_load1 x66 h67 fun x72 b73 =>
j69 x72 h67) (j69 undefA h67)) fun x70 h71 =>
joinV (fun j74 => p_yes x55 (p_eq x61 x70 fun x77 =>
j74 x77 h71) (j74 undefA h71)) fun x75 h76 =>
p_pick x55 x75 vF fun x78 =>
joinV (fun j79 => p_yes x78 (p_faddr 5 x2 fun x82 =>
j79 x82 h76) (j79 undefA h76)) fun x80 h81 =>
joinV (fun j83 => p_yes x78 (p_load1 x80 h81 fun x86 b87 =>
j83 x86 h81) (j83 undefA h81)) fun x84 h85 =>
joinV (fun j88 => p_yes x78 (p_faddr 5 x4 fun x91 =>
j88 x91 h85) (j88 undefA h85)) fun x89 h90 =>
joinV (fun j92 => p_yes x78 (p_load1 x89 h90 fun x95 b96 =>
j92 x95 h90) (j92 undefA h90)) fun x93 h94 =>
joinV (fun j97 => p_yes x78 (p_eq x84 x93 fun x100 =>
j97 x100 h94) (j97 undefA h94)) fun x98 h99 =>
p_pick x78 x98 vF fun x101 =>
joinV (fun j102 => p_yes x101 (p_faddr 6 x2 fun x105 =>
j102 x105 h99) (j102 undefA h99)) fun x103 h104 =>
joinV (fun j106 => p_yes x101 (p_load1 x103 h104 fun x109 b110 =>
j106 x109 h104) (j106 undefA h104)) fun x107 h108 =>
joinV (fun j111 => p_yes x101 (p_faddr 6 x4 fun x114 =>
j111 x114 h108) (j111 undefA h108)) fun x112 h113 =>
joinV (fun j115 => p_yes x101 (p_load1 x112 h113 fun x118 b119 =>
j115 x118 h113) (j115 undefA h113)) fun x116 h117 =>
joinV (fun j120 => p_yes x101 (p_eq x107 x116 fun x123 =>
j120 x123 h117) (j120 undefA h117)) fun x121 h122 =>
p_pick x101 x121 vF fun x124 =>
joinV (fun j125 => p_yes x124 (p_faddr 7 x2 fun x128 =>
j125 x128 h122) (j125 undefA h122)) fun x126 h127 =>
joinV (fun j129 => p_yes x124 (p_load1 x126 h127 fun x132 b133 =>
j129 x132 h127) (j129 undefA h127)) fun x130 h131 =>
joinV (fun j134 => p_yes x124 (p_faddr 7 x4 fun x137 =>
j134 x137 h131) (j134 undefA h131)) fun x135 h136 =>
joinV (fun j138 => p_yes x124 (p_load1 x135 h136 fun x141 b142 =>
j138 x141 h136) (j138 undefA h136)) fun x139 h140 =>
joinV (fun j143 => p_yes x124 (p_eq x130 x139 fun x146 =>
j143 x146 h140) (j143 undefA h140)) fun x144 h145 =>
p_pick x124 x144 vF fun x147 =>
c 98 [x24, x147] h145 (fun x150 h151 =>
kr undefA h151) kp) false) false) false
noncomputable def h100 : FBody := fun c D k A h kr kp => ifB (Nat.beq (lenV A) 2) (
p_box (nthV A 0) h fun x0 h1 =>
p_box (nthV A 1) h1 fun x2 h3 =>
p_loadN 0 x0 h3 fun x4 b5 =>
p_faddr 2 x2 fun x6 =>
p_load1 x6 h3 fun x7 b8 =>
c 108 [x4, x7] h3 (fun x11 h12 =>
p_faddr 0 x2 fun x13 =>
p_load1 x13 h12 fun x14 b15 =>
joinL (fun j16 =>
p_eq x14 (vi 4) fun x19 =>
joinL (fun j20 => p_if x19 (
j20 [x19] h12) (p_eq x14 (vi 6) fun x23 =>
j20 [x23] h12)) fun l21 h22 =>
p_if (nthV l21 0) (p_loadN 0 x0 h22 fun x24 b25 =>
p_loadN 9 x2 h22 fun x26 b27 =>
p_faddr 2 x2 fun x28 =>
p_load1 x28 h22 fun x29 b30 =>
onFill [(2, 1, x29)] [(vi 0), (vi 0), vS, (vi 0), (vi 0), (vi 0), (vi 0), (.int .u64 (.ofNat 0)), .nilSlice] fun l31 => (fun (x32 : AV) => c 99 [x24, x26, x32] h22 (fun x35 h36 =>
j16 [] h36) kp) (.agg l31)) (p_eq x14 (vi 2) fun x37 =>
joinL (fun j38 => p_if x37 (
j38 [x37] h22) (p_eq x14 (vi 3) fun x41 =>
p_if x41 (j38 [x41] h22) (p_eq x14 (vi 5) fun x42 =>
j38 [x42] h22))) fun l39 h40 =>
p_if (nthV l39 0) (p_loadN 0 x0 h40 fun x43 b44 =>
p_faddr 3 x2 fun x45 =>
p_load1 x45 h40 fun x46 b47 =>
c 138 [x43, x46] h40 (fun x50 h51 =>
p_loadN 0 x0 h51 fun x52 b53 =>
p_faddr 4 x2 fun x54 =>
p_load1 x54 h51 fun x55 b56 =>
p_bin .geq fiGeq x55 (vi 0) fun x57 =>
joinV (fun j58 => p_yes x57 (p_faddr 4 x2 fun x61 =>
j58 x61 h51) (j58 undefA h51)) fun x59 h60 =>
joinV (fun j62 => p_yes x57 (p_load1 x59 h60 fun x65 b66 =>
j62 x65 h60) (j62 undefA h60)) fun x63 h64 =>
joinV (fun j67 => p_yes x57 (p_eq x63 (vi 0) fun x70 =>
j67 x70 h64) (j67 undefA h64)) fun x68 h69 =>
joinV (fun j71 => p_yes x57 (j71 x68 h69) (j71 undefA h69)) fun x72 h73 =>
joinV (fun j74 => p_no x72 (p_faddr 0 x2 fun x77 =>
j74 x77 h73) (j74 undefA h73)) fun x75 h76 =>
joinV (fun j78 => p_no x72 (p_load1 x75 h76 fun x81 b82 =>
j78 x81 h76) (j78 undefA h76)) fun x79 h80 =>
joinV (fun j83 => p_no x72 (p_bin .neq fiNeq x79 (vi 2) fun x86 =>
j83 x86 h80) (j83 undefA h80)) fun x84 h85 =>
joinV (fun j87 => p_yes x57 (p_pick x72 vT x84 fun x90 =>
j87 x90 h85) (j87 undefA h85)) fun x88 h89 =>
p_pick x57 x88 vF fun x91 =>
c 98 [x52, x91] h89 (fun x94 h95 =>
p_loadN 0 x0 h95 fun x96 b97 =>
p_loadN 9 x2 h95 fun x98 b99 =>
p_faddr 2 x2 fun x100 =>
p_load1 x100 h95 fun x101 b102 =>
p_faddr 3 x2 fun x103 =>
p_load1 x103 h95 fun x104 b105 =>
p_faddr 4 x2 fun x106 =>
p_load1 x106 h95 fun x107 b108 =>
onFill [(2, 1, x101), (3, 1, x104), (4, 1, x107)] [(vi 0), (vi 0), vS, (vi 0), (vi 0), (vi 0), (vi 0), (.int .u64 (.ofNat 0)), .nilSlice] fun l109 => (fun (x110 : AV) => c 99 [x96, x98, x110] h95 (fun x113 h114 =>
j16 [] h114) kp) (.agg l109)) kp) kp) (p_eq x14 (vi 7) fun x115 =>
p_if x115 (p_loadN 0 x0 h40 fun x116 b117 =>
p_faddr 8 x2 fun x118 =>
p_load1 x118 h40 fun x119 b120 =>
p_lenL x119 fun x121 =>
p_bin .geq fiGeq x121 (vi 1) fun x122 =>
c 98 [x116, x122] h40 (fun x125 h126 =>
p_loadN 0 x0 h126 fun x127 b128 =>
p_loadN 9 x2 h126 fun x129 b130 =>
p_faddr 2 x2 fun x131 =>
p_load1 x131 h126 fun x132 b133 =>
p_faddr 8 x2 fun x134 =>
p_load1 x134 h126 fun x135 b136 =>
p_lenL x135 fun x137 =>
p_bin .sub fiSub x137 (vi 1) fun x138 =>
onFill [(2, 1, x132), (4, 1, x138)] [(vi 0), (vi 0), vS, (vi 0), (vi 0), (vi 0), (vi 0), (.int .u64 (.ofNat 0)), .nilSlice] fun l139 => (fun (x140 : AV) => c 99 [x127, x129, x140] h126 (fun x143 h144 =>
p_faddr 8 x2 fun x145 =>
p_load1 x145 h144 fun x146 b147 =>
p_faddr 8 x2 fun x148 =>
p_load1 x148 h144 fun x149 b150 =>
p_lenL x149 fun x151 =>
p_bin .sub fiSub x151 (vi 1) fun x152 =>
p_gen (.slc 9 (.t 75) none (some (.t 79)) none) [(75, x146), (79, x152)] h144 fun x153 h154 k155 =>
p_lenL x153 fun x156 =>
joinL (fun j157 =>
loopB k (fun r160 l161 h162 =>
p_bin .lss fiLss (nthV l161 0) x156 fun x163 =>
joinL (fun j164 => p_if x163 (
j164 [] h162) (j157 [] h162)) fun l165 h166 =>
joinL (fun j167 =>
p_iaddr 9 x153 (nthV l161 0) fun x170 =>
p_loadN 9 x170 h166 fun x171 b172 =>
(fun (x173 : AV) (h174 : AHeap) =>
p_store 9 x173 x171 h174 fun h175 b176 =>
p_loadN 0 x0 h175 fun x177 b178 =>
p_faddr 0 x173 fun x179 =>
p_load1 x179 h175 fun x180 b181 =>
p_eq x180 (vi 8) fun x182 =>
joinV (fun j183 => p_yes x182 (p_faddr 8 x173 fun x186 =>
j183 x186 h175) (j183 undefA h175)) fun x184 h185 =>
joinV (fun j187 => p_yes x182 (p_load1 x184 h185 fun x190 b191 =>
j187 x190 h185) (j187 undefA h185)) fun x188 h189 =>
joinV (fun j192 => p_yes x182 (p_lenL x188 fun x195 =>
j192 x195 h189) (j192 undefA h189)) fun x193 h194 =>
joinV (fun j196 => p_yes x182 (p_eq x193 (vi 0) fun x199 =>
j196 x199 h194) (j196 undefA h194)) fun x197 h198 =>
p_pick x182 x197 vF fun x200 =>
c 98 [x177, x200] h198 (fun x203 h204 =>
p_loadN 0 x0 h204 fun x205 b206 =>
p_faddr 2 x173 fun x207 =>
p_load1 x207 h204 fun x208 b209 =>
c 108 [x205, x208] h204 (fun x212 h213 =>
p_loadN 0 x0 h213 fun x214 b215 =>
p_faddr 3 x173 fun x216 =>
p_load1 x216 h213 fun x217 b218 =>
c 138 [x214, x217] h213 (fun x221 h222 =>
p_loadN 0 x0 h222 fun x223 b224 =>
p_loadN 9 x173 h222 fun x225 b226 =>
p_faddr 2 x173 fun x227 =>
p_load1 x227 h222 fun x228 b229 =>
p_faddr 3 x173 fun x230 =>
p_load1 x230 h222 fun x231 b232 =>
onFill [(2, 1, x228), (3, 1, x231)] [(vi 0), (vi 0), vS, (vi 0), (vi 0), (vi 0), (vi 0), (.int .u64 (.ofNat 0)), .nilSlice] fun l233 => (fun (x234 : AV) => c 99 [x223, x225, x234] h222 (fun x237 h238 =>
j167 [] h238) kp) (.agg l233)) kp) kp) kp) (.ptr h166.n (nat_lit 0)) (alQ h166 (.cells .own (nat_lit 0) [(vi 0), (vi 0), vS, (vi 0), (vi 0), (vi 0), (vi 0), (.int .u64 (.ofNat 0)), .nilSlice]))) fun l168 h169 =>
p_add (nthV l161 0) (vi 1) fun x239 =>
r160 [x239] h169) [(vi 0)] h154) fun l158 h159 =>
p_loadN 0 x0 h159 fun x240 b241 =>
p_faddr 8 x2 fun x242 =>
p_load1 x242 h159 fun x243 b244 =>
ifB (okAll (.rd b244) h159 h159 [⟨0, (.rd b241), h159, h159⟩]) (
p_faddr 8 x2 fun x245 =>
p_load1 x245 h159 fun x246 b247 =>
ifB (okAll (.rd b247) h159 h159 [⟨2, (.rd b244), h159, h159⟩, ⟨0, (.rd b241), h159, h159⟩]) (
p_lenL x246 fun x248 =>
p_bin .sub fiSub x248 (vi 1) fun x249 =>
p_iaddr 9 x243 x249 fun x250 =>
p_loadN 9 x250 h159 fun x251 b252 =>
ifB (okAll (.rd b252) h159 h159 [⟨0, (.rd b241), h159, h159⟩]) (
c 139 [x240, x251] h159 (fun x255 h256 =>
kr undefA h256) kp) false) false) false) kp) (.agg l139)) kp) (p_loadN 0 x0 h40 fun x257 b258 =>
c 98 [x257, vF] h40 (fun x261 h262 =>
j16 [] h262) kp)))) fun l17 h18 =>
p_loadN 0 x0 h18 fun x263 b264 =>
p_faddr 8 x2 fun x265 =>
p_load1 x265 h18 fun x266 b267 =>
p_lenL x266 fun x268 =>
p_eq x268 (vi 0) fun x269 =>
c 98 [x263, x269] h18 (fun x272 h273 =>
kr undefA h273) kp) kp) false
noncomputable def h108 : FBody := fun c D k A h kr kp => ifB (Nat.beq (lenV A) 2) (
p_box (nthV A 0) h fun x0 h1 =>
c 81 [(nthV A 1)] h1 (fun x4 h5 =>
p_ext x4 0 fun x6 =>
p_ext x4 1 fun x7 =>
(fun (x8 : AV) (h9 : AHeap) =>
p_store 2 x8 x7 h9 fun h10 b11 =>
p_loadN 0 x0 h10 fun x12 b13 =>
p_faddr 0 x8 fun x14 =>
p_load1 x14 h10 fun x15 b16 =>
ifB (okAll (.rd b16) h10 h10 [⟨0, (.rd b13), h10, h10⟩]) (
p_eqv false (.one .iface) x15 .nilIface fun x17 =>
joinC (fun j18 => p_yes x17 (j18 x6 h10 .free h10) (j18 undefA h10 .free h10)) fun x19 h20 k21 h22 =>
joinC (fun j23 => p_yes x17 (p_lenL x19 fun x28 =>
j23 x28 h20 .free h20) (j23 undefA h20 .free h20)) fun x24 h25 k26 h27 =>
joinC (fun j29 => p_yes x17 (p_eq x24 (vi 1) fun x34 =>
j29 x34 h25 .free h25) (j29 undefA h25 .free h25)) fun x30 h31 k32 h33 =>
p_pick x17 x30 vF fun x35 =>
joinC (fun j36 => p_yes x35 (j36 x6 h31 .free h31) (j36 undefA h31 .free h31)) fun x37 h38 k39 h40 =>
joinC (fun j41 => p_yes x35 (p_iaddr 5 x37 (vi 0) fun x46 =>
j41 x46 h38 .free h38) (j41 undefA h38 .free h38)) fun x42 h43 k44 h45 =>
joinC (fun j47 => p_yes x35 (p_faddr 0 x42 fun x52 =>
j47 x52 h43 .free h43) (j47 undefA h43 .free h43)) fun x48 h49 k50 h51 =>
joinC (fun j53 => p_yes x35 (p_load1 x48 h49 fun x58 b59 =>
ifB (okAll (.rd b59) h49 h49 [⟨0, (.rd b13), h10, h10⟩]) (
j53 x58 h49 (.rd b59) h49) false) (j53 undefA h49 .free h49)) fun x54 h55 k56 h57 =>
joinC (fun j60 => p_yes x35 (p_eq x54 (vi 1) fun x65 =>
j60 x65 h55 .free h55) (j60 undefA h55 .free h55)) fun x61 h62 k63 h64 =>
p_pick x35 x61 vF fun x66 =>
joinC (fun j67 => p_yes x66 (j67 x6 h62 .free h62) (j67 undefA h62 .free h62)) fun x68 h69 k70 h71 =>
joinC (fun j72 => p_yes x66 (p_iaddr 5 x68 (vi 0) fun x77 =>
j72 x77 h69 .free h69) (j72 undefA h69 .free h69)) fun x73 h74 k75 h76 =>
joinC (fun j78 => p_yes x66 (p_faddr 1 x73 fun x83 =>
j78 x83 h74 .free h74) (j78 undefA h74 .free h74)) fun x79 h80 k81 h82 =>
joinC (fun j84 => p_yes x66 (p_load1 x79 h80 fun x89 b90 =>
ifB (okAll (.rd b90) h80 h80 [⟨0, (.rd b13), h10, h10⟩]) (
j84 x89 h80 (.rd b90) h80) false) (j84 undefA h80 .free h80)) fun x85 h86 k87 h88 =>
joinC (fun j91 => p_yes x66 (j91 (nthV A 1) h86 .free h86) (j91 undefA h86 .free h86)) fun x92 h93 k94 h95 =>
joinC (fun j96 => p_yes x66 (p_eq x85 x92 fun x101 =>
j96 x101 h93 .free h93) (j96 undefA h93 .free h93)) fun x97 h98 k99 h100 =>
p_pick x66 x97 vF fun x102 =>
c 98 [x12, x102] h98 (fun x105 h106 =>
kr undefA h106) kp) false) (.ptr h5.n (nat_lit 0)) (alQ h5 (.cells .own (nat_lit 0) [.nilIface, (vi 0)]))) kp) false
noncomputable def h109 : FBody := fun c D k A h kr kp => ifB (Nat.beq (lenV A) 1) (
onFill [(0, 1, (.str [124, 124]))] [vS] fun l0 => ifB (flatsQ l0) ((fun (x1 : AV) (h2 : AHeap) =>
onFill [(0, 1, (.str [38, 38]))] [vS] fun l3 => ifB (flatsQ l3) ((fun (x4 : AV) (h5 : AHeap) =>
onFill [(0, 1, (.str [61, 61])), (1, 1, (.str [33, 61])), (2, 1, (.str [60])), (3, 1, (.str [60, 61])), (4, 1, (.str [62])), (5, 1, (.str [62, 61]))] [vS, vS, vS, vS, vS, vS] fun l6 => ifB (flatsQ l6) ((fun (x7 : AV) (h8 : AHeap) =>
onFill [(0, 1, (.str [43])), (1, 1, (.str [45]))] [vS, vS] fun l9 => ifB (flatsQ l9) ((fun (x10 : AV) (h11 : AHeap) =>
onFill [(0, 1, (.str [42])), (1, 1, (.str [47])), (2, 1, (.str [37]))] [vS, vS, vS] fun l12 => ifB (flatsQ l12) ((fun (x13 : AV) (h14 : AHeap) =>
onFill [(0, 1, x1), (1, 1, x4), (2, 1, x7), (3, 1, x10), (4, 1, x13)] [.nilSlice, .nilSlice, .nilSlice, .nilSlice, .nilSlice] fun l15 => (fun (x16 : AV) => joinL (fun j17 =>
loopB k (fun r20 l21 h22 =>
p_bin .lss fiLss (nthV l21 1) (vi 5) fun x23 =>
joinL (fun j24 => p_if x23 (
j24 [] h22) (j17 [(nthV l21 0)] h22)) fun l25 h26 =>
joinL (fun j27 =>
p_idxa1 5 1 x16 (nthV l21 1) fun x30 =>
p_lenL x30 fun x31 =>
loopB k (fun r32 l33 h34 =>
p_bin .lss fiLss (nthV l33 1) x31 fun x35 =>
joinL (fun j36 => p_if x35 (
j36 [] h34) (j27 [(nthV l33 0)] h34)) fun l37 h38 =>
joinL (fun j39 =>
p_iaddr 1 x30 (nthV l33 1) fun x42 =>
p_load1 x42 h38 fun x43 b44 =>
p_eq x43 (nthV A 0) fun x45 =>
p_if x45 (p_add (nthV l21 1) (vi 1) fun x46 =>
kr x46 h38) (j39 [(nthV l33 0)] h38)) fun l40 h41 =>
p_add (nthV l33 1) (vi 1) fun x47 =>
r32 [(nthV l40 0), x47] h41) [(nthV l21 0), (vi 0)] h26) fun l28 h29 =>
p_add (nthV l21 1) (vi 1) fun x48 =>
r20 [(nthV l28 0), x48] h29) [(vi 0), (vi 0)] h14) fun l18 h19 =>
kr (vi 0) h19) (.agg l15)) (.slice h11.n (nat_lit 0) 3 3 true) (alQ h11 (.cells .own 1 l12))) false) (.slice h8.n (nat_lit 0) 2 2 true) (alQ h8 (.cells .own 1 l9))) false) (.slice h5.n (nat_lit 0) 6 6 true) (alQ h5 (.cells .own 1 l6))) false) (.slice h2.n (nat_lit 0) 1 1 true) (alQ h2 (.cells .own 1 l3))) false) (.slice h.n (nat_lit 0) 1 1 true) (alQ h (.cells .own 1 l0))) false) false
noncomputable def h114 : FBody := fun c D k A h kr kp => ifB (Nat.beq (lenV A) 1) (
p_load1 (.ptr 0 0) h fun x0 b1 =>
c 38 [(nthV A 0), x0, (vi 0)] h (fun x4 h5 =>
kr undefA h5) kp) false
noncomputable def h115 : FBody := fun c D k A h kr kp => ifB (Nat.beq (lenV A) 2) (
c 150 [(nthV A 0), (nthV A 1)] h (fun x2 h3 =>
p_bin .geq fiGeq x2 (vi 0) fun x4 =>
kr x4 h3) kp) false
noncomputable def h116 : FBody := fun c D k A h kr kp => ifB (Nat.beq (lenV A) 1) (
c 117 [(nthV A 0)] h (fun x2 h3 =>
p_not x2 fun x4 =>
kr x4 h3) kp) false
noncomputable def h117 : FBody := fun c D k A h kr kp => ifB (Nat.beq (lenV A) 1) (
p_bin .geq fiGeq (nthV A 0) (vi 1) fun x0 =>
joinV (fun j1 => p_yes x0 (j1 (nthV A 0) h) (j1 undefA h)) fun x2 h3 =>
joinV (fun j4 => p_yes x0 (p_bin .leq fiLeq x2 (vi 3) fun x7 =>
j4 x7 h3) (j4 undefA h3)) fun x5 h6 =>
p_pick x0 x5 vF fun x8 =>
kr x8 h6) false
noncomputable def h118 : FBody := fun c D k A h kr kp => ifB (Nat.beq (lenV A) 2) (
p_bin .geq fiGeq (nthV A 0) (vi 0) fun x0 =>
joinV (fun j1 => p_yes x0 (j1 (nthV A 0) h) (j1 undefA h)) fun x2 h3 =>
joinV (fun j4 => p_yes x0 (j4 (nthV A 1) h3) (j4 undefA h3)) fun x5 h6 =>
joinV (fun j7 => p_yes x0 (p_bin .lss fiLss x2 x5 fun x10 =>
j7 x10 h6) (j7 undefA h6)) fun x8 h9 =>
p_pick x0 x8 vF fun x11 =>
kr x11 h9) false
noncomputable def h119 : FBody := fun c D k A h kr kp => ifB (Nat.beq (lenV A) 3) (
p_box (nthV A 1) h fun x0 h1 =>
p_eq (nthV A 2) (vi 0) fun x2 =>
p_if x2 (p_faddr 0 x0 fun x3 =>
p_load1 x3 h1 fun x4 b5 =>
p_eq x4 (vi 9) fun x6 =>
c 114 [x6] h1 (fun x9 h10 =>
p_loadN 9 x0 h10 fun x11 b12 =>
onFill [] [(vi 0), (vi 0), vS, (vi 0), (vi 0), (vi 0), (vi 0), (.int .u64 (.ofNat 0)), .nilSlice] fun l13 => (fun (x14 : AV) => c 151 [x11, x14] h10 (fun x17 h18 =>
onFill [(0, 1, (vi 1))] [(vi 0)] fun l19 => ifB (flatsQ l19) ((fun (x20 : AV) (h21 : AHeap) =>
p_loadN 9 x0 h21 fun x22 b23 =>
ifB (okAll (.rd b23) h21 h21 [⟨2, .new, h18, h21⟩]) (
p_faddr 8 x0 fun x24 =>
p_load1 x24 h21 fun x25 b26 =>
ifB (okAll (.rd b26) h21 h21 [⟨1, (.rd b23), h21, h21⟩, ⟨2, .new, h18, h21⟩]) (
p_lenL x25 fun x27 =>
c 73 [x20, x27] h21 (fun x30 h31 =>
ifB (okAll .big h21 h31 [⟨1, (.rd b23), h21, h21⟩]) (
c 152 [(nthV A 0), x22, x30] h31 (fun x34 h35 =>
kr undefA h35) kp) false) (fun p28 h29 => ifB (okAll .big h21 h29 [⟨1, (.rd b23), h21, h21⟩]) (
kp p28 h29) false)) false) false) (.slice h18.n (nat_lit 0) 1 1 true) (alQ h18 (.cells .own 1 l19))) false) kp) (.agg l13)) kp) (p_eq (nthV A 2) (vi 1) fun x36 =>
p_if x36 (p_loadN 9 x0 h1 fun x37 b38 =>
c 153 [(nthV A 0), x37] h1 (fun x41 h42 =>
kr undefA h42) kp) (p_eq (nthV A 2) (vi 3) fun x43 =>
p_if x43 (p_faddr 0 x0 fun x44 =>
p_load1 x44 h1 fun x45 b46 =>
p_eq x45 (vi 32) fun x47 =>
joinV (fun j48 => p_no x47 (p_faddr 0 x0 fun x51 =>
j48 x51 h1) (j48 undefA h1)) fun x49 h50 =>
joinV (fun j52 => p_no x47 (p_load1 x49 h50 fun x55 b56 =>
j52 x55 h50) (j52 undefA h50)) fun x53 h54 =>
joinV (fun j57 => p_no x47 (p_eq x53 (vi 33) fun x60 =>
j57 x60 h54) (j57 undefA h54)) fun x58 h59 =>
p_pick x47 vT x58 fun x61 =>
joinV (fun j62 => p_no x61 (p_faddr 0 x0 fun x65 =>
j62 x65 h59) (j62 undefA h59)) fun x63 h64 =>
joinV (fun j66 => p_no x61 (p_load1 x63 h64 fun x69 b70 =>
j66 x69 h64) (j66 undefA h64)) fun x67 h68 =>
joinV (fun j71 => p_no x61 (p_eq x67 (vi 34) fun x74 =>
j71 x74 h68) (j71 undefA h68)) fun x72 h73 =>
p_pick x61 vT x72 fun x75 =>
c 114 [x75] h73 (fun x78 h79 =>
p_loadN 9 x0 h79 fun x80 b81 =>
c 154 [(nthV A 0), x80] h79 (fun x84 h85 =>
kr undefA h85) kp) kp) (p_loadN 9 x0 h1 fun x86 b87 =>
c 154 [(nthV A 0), x86] h1 (fun x90 h91 =>
kr undefA h91) kp)))) false
noncomputable def h120 : FBody := fun c D k A h kr kp => ifB (Nat.beq (lenV A) 2) (
joinL (fun j0 => p_if vF (
p_cvi .u32 (nthV A 0) fun x3 =>
p_cvi .u32 (nthV A 1) fun x4 =>
c 155 [x3, x4] h (fun x7 h8 =>
p_ext x7 0 fun x9 =>
p_ext x7 1 fun x10 =>
p_cvi .u64 x9 fun x11 =>
p_cvi .u64 x10 fun x12 =>
kr (.tuple [x11, x12]) h8) kp) (j0 [(.int .u64 (.ofNat 0)), (.int .u64 (.ofNat 0))] h)) fun l1 h2 =>
c 156 [(nthV A 0), (nthV A 1)] h2 (fun x15 h16 =>
p_ext x15 0 fun x17 =>
p_ext x15 1 fun x18 =>
kr (.tuple [x17, x18]) h16) kp) false
noncomputable def h121 : FBody := fun c D k A h kr kp => ifB (Nat.beq (lenV A) 2) (
asNil (
p_faddr 8 (nthV A 0) fun x0 =>
p_load1 x0 h fun x1 b2 =>
c 129 [x1, (nthV A 1)] h (fun x5 h6 =>
p_bin .lss fiLss x5 (vi 0) fun x7 =>
joinL (fun j8 => p_if x7 (
kr (.int .i64 (.negSucc 0)) h6) (j8 [(vi 0)] h6)) fun l9 h10 =>
asNil (
p_faddr 9 (nthV A 0) fun x11 =>
p_load1 x11 h10 fun x12 b13 =>
p_iaddr 1 x12 x5 fun x14 =>
p_load1 x14 h10 fun x15 b16 =>
kr x15 h10) (nthV A 0)) kp) (nthV A 0)) false
noncomputable def h122 : FBody := fun c D k A h kr kp => ifB (Nat.beq (lenV A) 1) (
joinL (fun j0 =>
p_eq (nthV A 0) (vi 12) fun x3 =>
joinL (fun j4 => p_if x3 (
j4 [x3] h) (p_eq (nthV A 0) (vi 13) fun x7 =>
j4 [x7] h)) fun l5 h6 =>
p_if (nthV l5 0) (kr (vi 7) h6) (p_eq (nthV A 0) (vi 14) fun x8 =>
joinL (fun j9 => p_if x8 (
j9 [x8] h6) (p_eq (nthV A 0) (vi 15) fun x12 =>
j9 [x12] h6)) fun l10 h11 =>
p_if (nthV l10 0) (kr (vi 4) h11) (p_eq (nthV A 0) (vi 16) fun x13 =>
joinL (fun j14 => p_if x13 (
j14 [x13] h11) (p_eq (nthV A 0) (vi 17) fun x17 =>
j14 [x17] h11)) fun l15 h16 =>
p_if (nthV l15 0) (kr (vi 5) h16) (p_eq (nthV A 0) (vi 18) fun x18 =>
joinL (fun j19 => p_if x18 (
j19 [x18] h16) (p_eq (nthV A 0) (vi 19) fun x22 =>
p_if x22 (j19 [x22] h16) (p_eq (nthV A 0) (vi 20) fun x23 =>
j19 [x23] h16))) fun l20 h21 =>
p_if (nthV l20 0) (kr (vi 6) h21) (j0 [(vi 0)] h21))))) fun l1 h2 =>
kr (vi 0) h2) false
noncomputable def h123 : FBody := fun c D k A h kr kp => ifB (Nat.beq (lenV A) 4) (
(fun (x0 : AV) (h1 : AHeap) =>
asNil (
p_faddr 6 (nthV A 0) fun x2 =>
p_load1 x2 h1 fun x3 b4 =>
p_gen (.lookup (.one .str) (.agg [(vi 0), (vi 0), (vi 0)]) (.t 15) (.t 16) true) [(15, x3), (16, (nthV A 1))] h1 fun x5 h6 k7 =>
p_ext x5 0 fun x8 =>
p_ext x5 1 fun x9 =>
(fun (x10 : AV) (h11 : AHeap) =>
p_store 3 x10 x8 h11 fun h12 b13 =>
joinC (fun j14 => p_yes x9 (p_faddr 0 x10 fun x19 =>
j14 x19 h12 .free h12) (j14 undefA h12 .free h12)) fun x15 h16 k17 h18 =>
joinC (fun j20 => p_yes x9 (p_load1 x15 h16 fun x25 b26 =>
j20 x25 h16 (.rd b26) h16) (j20 undefA h16 .free h16)) fun x21 h22 k23 h24 =>
joinC (fun j27 => p_yes x9 (j27 (nthV A 2) h22 .free h22) (j27 undefA h22 .free h22)) fun x28 h29 k30 h31 =>
joinC (fun j32 => p_yes x9 (p_eq x21 x28 fun x37 =>
j32 x37 h29 .free h29) (j32 undefA h29 .free h29)) fun x33 h34 k35 h36 =>
p_pick x9 x33 vF fun x38 =>
joinC (fun j39 => p_yes x38 (j39 (nthV A 0) h34 .free h34) (j39 undefA h34 .free h34)) fun x40 h41 k42 h43 =>
joinC (fun j44 => p_yes x38 (j44 (nthV A 1) h41 .free h41) (j44 undefA h41 .free h41)) fun x45 h46 k47 h48 =>
joinC (fun j49 => p_yes x38 (c 121 [x40, x45] h46 (fun x58 h59 =>
j49 x58 h59 .big h46) (fun p54 h55 => p_load1 (.ptr 5 0) h55 fun x56 b57 =>
ifB (okAll (.rd b57) h55 h55 [⟨10, .big, h46, h55⟩, ⟨3, k23, h24, h22⟩]) (
kp p54 h55) false)) (j49 undefA h46 .free h46)) fun x50 h51 k52 h53 =>
joinC (fun j60 => p_yes x38 (p_bin .lss fiLss x50 (vi 0) fun x65 =>
j60 x65 h51 .free h51) (j60 undefA h51 .free h51)) fun x61 h62 k63 h64 =>
p_pick x38 x61 vF fun x66 =>
p_load1 (.ptr 5 0) h62 fun x67 b68 =>
ifB (okAll (.rd b68) h62 h62 [⟨10, k52, h53, h51⟩, ⟨3, k23, h24, h22⟩]) (
c 38 [x66, x67, (nthV A 3)] h62 (fun x71 h72 =>
p_loadN 3 x10 h72 fun x73 b74 =>
p_store 3 x0 x73 h72 fun h75 b76 =>
p_loadN 3 x0 h75 fun x77 b78 => kr x77 h75) kp) false) (.ptr h6.n (nat_lit 0)) (alQ h6 (.cells .own (nat_lit 0) [(vi 0), (vi 0), (vi 0)]))) (nthV A 0)) (.ptr h.n (nat_lit 0)) (alQ h (.cells .own (nat_lit 0) [(vi 0), (vi 0), (vi 0)]))) false
noncomputable def d124 : FDBody := fun c k A lv h K => ifB (Nat.beq (lenV A) 2) (
p_eqv true (.one .iface) (lvQ lv) .nilIface fun x0 =>
p_if x0 (p_gen (.tassert 185 (.agg [.nilIface, (vi 0)]) (.t 9)) [(9, (lvQ lv))] h fun x1 h2 k3 =>
p_ext x1 0 fun x4 =>
p_ext x1 1 fun x5 =>
(fun (x6 : AV) (h7 : AHeap) =>
p_store 2 x6 x4 h7 fun h8 b9 =>
p_not x5 fun x10 =>
joinL (fun j11 => p_if x10 (
asIf (fun t14 x15 => false) (lvQ lv)) (j11 [] h8)) fun l12 h13 =>
p_faddr 0 x6 fun x16 =>
p_loadN 2 x16 h13 fun x17 b18 =>
p_store 1 (nthV A 0) .nilSlice h13 fun h19 b20 =>
ifB (okAll (.wr b20) h13 h19 [⟨1, (.rd b18), h13, h13⟩]) (
p_store 2 (nthV A 1) x17 h19 fun h21 b22 =>
K h21) false) (.ptr h2.n (nat_lit 0)) (alQ h2 (.cells .own (nat_lit 0) [.nilIface, (vi 0)]))) (K h)) false
noncomputable def h125 : FBody := fun c D k A h kr kp => ifB (Nat.beq (lenV A) 1) (
loopB k (fun r0 l1 h2 =>
asNil (
p_faddr 1 (nthV A 0) fun x3 =>
p_load1 x3 h2 fun x4 b5 =>
c 157 [(nthV A 0), (.func (.func 158) [] [])] h2 (fun x8 h9 =>
asNil (
p_faddr 0 (nthV A 0) fun x10 =>
p_load1 x10 h9 fun x11 b12 =>
asNil (
p_faddr 1 (nthV A 0) fun x13 =>
p_load1 x13 h9 fun x14 b15 =>
ifB (okAll (.rd b15) h9 h9 [⟨3, (.rd b12), h9, h9⟩]) (
asStr (fun s16 => onBnd x14 (lenB s16) fun n17 => (fun (x18 : AV) => c 148 [x18, (.str [47, 47])] h9 (fun x21 h22 =>
joinL (fun j23 => p_if x21 (
c 157 [(nthV A 0), (.func (.func 159) [] [])] h22 (fun x28 h29 =>
j23 [] h29) kp) (j23 [] h22)) fun l24 h25 =>
asNil (
p_faddr 1 (nthV A 0) fun x30 =>
p_load1 x30 h25 fun x31 b32 =>
p_eq x31 x4 fun x33 =>
p_if x33 (kr undefA h25) (r0 [] h25)) (nthV A 0)) kp) (.str (dropC s16 n17))) x11) false) (nthV A 0)) (nthV A 0)) kp) (nthV A 0)) [] h) false
noncomputable def h126 : FBody := fun c D k A h kr kp => ifB (Nat.beq (lenV A) 3) (
onFill [(0, 1, (nthV A 1)), (1, 1, (nthV A 2))] [.nilIface, (vi 0)] fun l0 => (fun (x1 : AV) => onFill [(0, 2, x1)] [.nilIface, (vi 0)] fun l2 => (fun (x3 : AV) => (fun (x4 : AV) => asIf (fun t5 x6 => kp (.iface t5 x6) h) x4) (.iface 185 x3)) (.agg l2)) (.agg l0)) false
noncomputable def h127 : FBody := fun c D k A h kr kp => ifB (Nat.beq (lenV A) 1) (
(fun (x0 : AV) (h1 : AHeap) =>
joinL (fun j2 =>
c 160 [(nthV A 0), (.func (.func 161) [] [])] h1 (fun x7 h8 =>
p_if x7 (c 162 [(nthV A 0)] h8 (fun x11 h12 =>
p_store 5 x0 x11 h12 fun h13 b14 =>
p_loadN 5 x0 h13 fun x15 b16 => kr x15 h13) kp) (c 160 [(nthV A 0), (.func (.func 163) [] [])] h8 (fun x19 h20 =>
p_if x19 (c 164 [(nthV A 0)] h20 (fun x23 h24 =>
p_store 5 x0 x23 h24 fun h25 b26 =>
p_loadN 5 x0 h25 fun x27 b28 => kr x27 h25) kp) (asNil (
p_faddr 0 (nthV A 0) fun x29 =>
p_load1 x29 h20 fun x30 b31 =>
asNil (
p_faddr 1 (nthV A 0) fun x32 =>
p_load1 x32 h20 fun x33 b34 =>
ifB (okAll (.rd b34) h20 h20 [⟨3, (.rd b31), h20, h20⟩]) (
p_idxs x30 x33 fun x35 =>
p_eq x35 (.int .u8 (.ofNat 35)) fun x36 =>
p_if x36 (c 165 [(nthV A 0)] h20 (fun x39 h40 =>
p_store 5 x0 x39 h40 fun h41 b42 =>
p_loadN 5 x0 h41 fun x43 b44 => kr x43 h41) kp) (j2 [] h20)) false) (nthV A 0)) (nthV A 0))) kp)) kp) fun l3 h4 =>
c 166 [(nthV A 0)] h4 (fun x47 h48 =>
p_store 5 x0 x47 h48 fun h49 b50 =>
p_loadN 5 x0 h49 fun x51 b52 => kr x51 h49) kp) (.ptr h.n (nat_lit 0)) (alQ h (.cells .own (nat_lit 0) [(vi 0), vS, (vi 0), (.int .u64 (.ofNat 0)), (vi 0)]))) false
noncomputable def h128 : FBody := fun c D k A h kr kp => ifB (Nat.beq (lenV A) 2) (
c 129 [(nthV A 0), (nthV A 1)] h (fun x2 h3 =>
p_bin .geq fiGeq x2 (vi 0) fun x4 =>
kr x4 h3) kp) false
noncomputable def h129 : FBody := fun c D k A h kr kp => ifB (Nat.beq (lenV A) 2) (
p_lenL (nthV A 0) fun x0 =>
joinL (fun j1 =>
loopB k (fun r4 l5 h6 =>
p_bin .lss fiLss (nthV l5 1) x0 fun x7 =>
joinL (fun j8 => p_if x7 (
j8 [] h6) (j1 [(nthV l5 0)] h6)) fun l9 h10 =>
joinL (fun j11 =>
p_iaddr 1 (nthV A 0) (nthV l5 1) fun x14 =>
p_load1 x14 h10 fun x15 b16 =>
p_eq (nthV A 1) x15 fun x17 =>
p_if x17 (kr (nthV l5 1) h10) (j11 [(nthV l5 0)] h10)) fun l12 h13 =>
p_add (nthV l5 1) (vi 1) fun x18 =>
r4 [(nthV l12 0), x18] h13) [(vi 0), (vi 0)] h) fun l2 h3 =>
kr (.int .i64 (.negSucc 0)) h3) false
noncomputable def h130 : FBody := fun c D k A h kr kp => ifB (Nat.beq (lenV A) 2) (
onFill [(0, 1, (nthV A 1))] [vS] fun l0 => ifB (flatsQ l0) ((fun (x1 : AV) (h2 : AHeap) =>
c 84 [(nthV A 0), x1] h2 (fun x5 h6 =>
p_not x5 fun x7 =>
joinL (fun j8 => p_if x7 (
kr vF h6) (j8 [vF] h6)) fun l9 h10 =>
asNil (
p_faddr 0 (nthV A 0) fun x11 =>
p_load1 x11 h10 fun x12 b13 =>
p_gen (.slc 5 (.t 14) (some (.c (vi 1))) none none) [(14, x12)] h10 fun x14 h15 k16 =>
asNil (
p_faddr 0 (nthV A 0) fun x17 =>
p_store 1 x17 x14 h15 fun h18 b19 =>
kr vT h18) (nthV A 0)) (nthV A 0)) kp) (.slice h.n (nat_lit 0) 1 1 true) (alQ h (.cells .own 1 l0))) false) false
noncomputable def h131 : FBody := fun c D k A h kr kp => ifB (Nat.beq (lenV A) 2) (
(fun (x0 : AV) (h1 : AHeap) =>
onFill [(0, 1, (nthV A 1))] [vS] fun l2 => ifB (flatsQ l2) ((fun (x3 : AV) (h4 : AHeap) =>
c 84 [(nthV A 0), x3] h4 (fun x7 h8 =>
p_not x7 fun x9 =>
joinL (fun j10 => p_if x9 (
c 83 [(nthV A 0)] h8 (fun x15 h16 =>
j10 [] h16) kp) (j10 [] h8)) fun l11 h12 =>
asNil (
p_faddr 2 (nthV A 0) fun x17 =>
p_load1 x17 h12 fun x18 b19 =>
p_eq x18 (vi 16) fun x20 =>
joinL (fun j21 => p_if x20 (
p_load1 (.ptr 4 0) h12 fun x24 b25 =>
c 49 [(nthV A 0)] h12 (fun x28 h29 =>
ifB (okAll .big h12 h29 [⟨0, (.rd b25), h12, h12⟩]) (
p_fld x28 4 fun x30 =>
onFill [(0, 1, x24), (1, 1, x30)] [.nilIface, (vi 0)] fun l31 => (fun (x32 : AV) => onFill [(0, 2, x32)] [.nilIface, (vi 0)] fun l33 => (fun (x34 : AV) => (fun (x35 : AV) => asIf (fun t36 x37 => kp (.iface t36 x37) h29) x35) (.iface 137 x34)) (.agg l33)) (.agg l31)) false) (fun p26 h27 => ifB (okAll .big h12 h27 [⟨0, (.rd b25), h12, h12⟩]) (
kp p26 h27) false)) (j21 [] h12)) fun l22 h23 =>
asNil (
p_faddr 2 (nthV A 0) fun x38 =>
p_load1 x38 h23 fun x39 b40 =>
p_add x39 (vi 1) fun x41 =>
asNil (
p_faddr 2 (nthV A 0) fun x42 =>
p_store 1 x42 x41 h23 fun h43 b44 =>
c 90 [(nthV A 0), (nthV A 1)] h43 (fun x47 h48 =>
p_store 5 x0 x47 h48 fun h49 b50 =>
p_loadN 5 x0 h49 fun x51 b52 => kr x51 h49) kp) (nthV A 0)) (nthV A 0)) (nthV A 0)) kp) (.slice h1.n (nat_lit 0) 1 1 true) (alQ h1 (.cells .own 1 l2))) false) (.ptr h.n (nat_lit 0)) (alQ h (.cells .own (nat_lit 0) [(vi 0), vS, (vi 0), (.int .u64 (.ofNat 0)), (vi 0)]))) false
noncomputable def h132 : FBody := fun c D k A h kr kp => ifB (Nat.beq (lenV A) 1) (
(fun (x0 : AV) (h1 : AHeap) =>
c 49 [(nthV A 0)] h1 (fun x4 h5 =>
p_fld x4 4 fun x6 =>
joinL (fun j7 =>
c 130 [(nthV A 0), (.str [105, 102])] h5 (fun x12 h13 =>
p_if x12 (c 96 [(nthV A 0)] h13 (fun x16 h17 =>
onFill [(0, 9, x16)] [(vi 0), (vi 0), vS, (vi 0), (vi 0), (vi 0), (vi 0), (.int .u64 (.ofNat 0)), .nilSlice] fun l18 => ifB (flatsQ l18) ((fun (x19 : AV) (h20 : AHeap) =>
onFill [(0, 1, (vi 21)), (1, 1, x6), (8, 1, x19)] [(vi 0), (vi 0), vS, (vi 0), (vi 0), (vi 0), (vi 0), (.int .u64 (.ofNat 0)), .nilSlice] fun l21 => (fun (x22 : AV) => (fun (x23 : AV) (h24 : AHeap) =>
p_store 9 x23 x22 h24 fun h25 b26 =>
p_faddr 8 x23 fun x27 =>
p_load1 x27 h25 fun x28 b29 =>
c 89 [(nthV A 0)] h25 (fun x32 h33 =>
ifB (okAll .big h25 h33 [⟨1, (.rd b29), h25, h25⟩]) (
onFill [(0, 9, x32)] [(vi 0), (vi 0), vS, (vi 0), (vi 0), (vi 0), (vi 0), (.int .u64 (.ofNat 0)), .nilSlice] fun l34 => ifB (flatsQ l34) ((fun (x35 : AV) (h36 : AHeap) =>
ifB (okAll .new h33 h36 [⟨1, (.rd b29), h25, h25⟩]) (
p_append 9 96 x28 x35 h36 fun x37 h38 =>
p_faddr 8 x23 fun x39 =>
p_store 1 x39 x37 h38 fun h40 b41 =>
c 130 [(nthV A 0), (.str [101, 108, 115, 101])] h40 (fun x44 h45 =>
joinL (fun j46 => p_if x44 (
p_faddr 8 x23 fun x49 =>
p_load1 x49 h45 fun x50 b51 =>
c 89 [(nthV A 0)] h45 (fun x54 h55 =>
ifB (okAll .big h45 h55 [⟨1, (.rd b51), h45, h45⟩]) (
onFill [(0, 9, x54)] [(vi 0), (vi 0), vS, (vi 0), (vi 0), (vi 0), (vi 0), (.int .u64 (.ofNat 0)), .nilSlice] fun l56 => ifB (flatsQ l56) ((fun (x57 : AV) (h58 : AHeap) =>
ifB (okAll .new h55 h58 [⟨1, (.rd b51), h45, h45⟩]) (
p_append 9 96 x50 x57 h58 fun x59 h60 =>
p_faddr 8 x23 fun x61 =>
p_store 1 x61 x59 h60 fun h62 b63 =>
j46 [] h62) false) (.slice h55.n (nat_lit 0) 1 1 true) (alQ h55 (.cells .own 9 l56))) false) false) (fun p52 h53 => ifB (okAll .big h45 h53 [⟨1, (.rd b51), h45, h45⟩]) (
kp p52 h53) false)) (j46 [] h45)) fun l47 h48 =>
p_loadN 9 x23 h48 fun x64 b65 =>
p_store 9 x0 x64 h48 fun h66 b67 =>
p_loadN 9 x0 h66 fun x68 b69 => kr x68 h66) kp) false) (.slice h33.n (nat_lit 0) 1 1 true) (alQ h33 (.cells .own 9 l34))) false) false) (fun p30 h31 => ifB (okAll .big h25 h31 [⟨1, (.rd b29), h25, h25⟩]) (
kp p30 h31) false)) (.ptr h20.n (nat_lit 0)) (alQ h20 (.cells .own (nat_lit 0) [(vi 0), (vi 0), vS, (vi 0), (vi 0), (vi 0), (vi 0), (.int .u64 (.ofNat 0)), .nilSlice]))) (.agg l21)) (.slice h17.n (nat_lit 0) 1 1 true) (alQ h17 (.cells .own 9 l18))) false) kp) (c 130 [(nthV A 0), (.str [119, 104, 105, 108, 101])] h13 (fun x72 h73 =>
p_if x72 (c 96 [(nthV A 0)] h73 (fun x76 h77 =>
onFill [(0, 9, x76)] [(vi 0), (vi 0), vS, (vi 0), (vi 0), (vi 0), (vi 0), (.int .u64 (.ofNat 0)), .nilSlice] fun l78 => ifB (flatsQ l78) ((fun (x79 : AV) (h80 : AHeap) =>
onFill [(0, 1, (vi 22)), (1, 1, x6), (8, 1, x79)] [(vi 0), (vi 0), vS, (vi 0), (vi 0), (vi 0), (vi 0), (.int .u64 (.ofNat 0)), .nilSlice] fun l81 => (fun (x82 : AV) => (fun (x83 : AV) (h84 : AHeap) =>
p_store 9 x83 x82 h84 fun h85 b86 =>
p_faddr 8 x83 fun x87 =>
p_load1 x87 h85 fun x88 b89 =>
c 89 [(nthV A 0)] h85 (fun x92 h93 =>
ifB (okAll .big h85 h93 [⟨1, (.rd b89), h85, h85⟩]) (
onFill [(0, 9, x92)] [(vi 0), (vi 0), vS, (vi 0), (vi 0), (vi 0), (vi 0), (.int .u64 (.ofNat 0)), .nilSlice] fun l94 => ifB (flatsQ l94) ((fun (x95 : AV) (h96 : AHeap) =>
ifB (okAll .new h93 h96 [⟨1, (.rd b89), h85, h85⟩]) (
p_append 9 96 x88 x95 h96 fun x97 h98 =>
p_faddr 8 x83 fun x99 =>
p_store 1 x99 x97 h98 fun h100 b101 =>
p_loadN 9 x83 h100 fun x102 b103 =>
p_store 9 x0 x102 h100 fun h104 b105 =>
p_loadN 9 x0 h104 fun x106 b107 => kr x106 h104) false) (.slice h93.n (nat_lit 0) 1 1 true) (alQ h93 (.cells .own 9 l94))) false) false) (fun p90 h91 => ifB (okAll .big h85 h91 [⟨1, (.rd b89), h85, h85⟩]) (
kp p90 h91) false)) (.ptr h80.n (nat_lit 0)) (alQ h80 (.cells .own (nat_lit 0) [(vi 0), (vi 0), vS, (vi 0), (vi 0), (vi 0), (vi 0), (.int .u64 (.ofNat 0)), .nilSlice]))) (.agg l81)) (.slice h77.n (nat_lit 0) 1 1 true) (alQ h77 (.cells .own 9 l78))) false) kp) (j7 [] h73)) kp)) kp) fun l8 h9 =>
c 167 [(nthV A 0)] h9 (fun x110 h111 =>
(fun (x112 : AV) (h113 : AHeap) =>
p_store 9 x112 x110 h113 fun h114 b115 =>
c 90 [(nthV A 0), (.str [59])] h114 (fun x118 h119 =>
p_loadN 9 x112 h119 fun x120 b121 =>
p_store 9 x0 x120 h119 fun h122 b123 =>
p_loadN 9 x0 h122 fun x124 b125 => kr x124 h122) kp) (.ptr h111.n (nat_lit 0)) (alQ h111 (.cells .own (nat_lit 0) [(vi 0), (vi 0), vS, (vi 0), (vi 0), (vi 0), (vi 0), (.int .u64 (.ofNat 0)), .nilSlice]))) kp) kp) (.ptr h.n (nat_lit 0)) (alQ h (.cells .own (nat_lit 0) [(vi 0), (vi 0), vS, (vi 0), (vi 0), (vi 0), (vi 0), (.int .u64 (.ofNat 0)), .nilSlice]))) false
noncomputable def h133 : FBody := fun c D k A h kr kp => ifB (Nat.beq (lenV A) 2) (
c 90 [(nthV A 0), (nthV A 1)] h (fun x2 h3 =>
asNil (
p_faddr 2 (nthV A 0) fun x4 =>
p_load1 x4 h3 fun x5 b6 =>
p_bin .sub fiSub x5 (vi 1) fun x7 =>
asNil (
p_faddr 2 (nthV A 0) fun x8 =>
p_store 1 x8 x7 h3 fun h9 b10 =>
kr undefA h9) (nthV A 0)) (nthV A 0)) kp) false
noncomputable def h136 : FBody := fun c D k A h kr kp => ifB (Nat.beq (lenV A) 4) (
(fun (x0 : AV) (h1 : AHeap) =>
p_fn (nthV A 1) fun g6 a7 b8 => c g6 (appL a7 (appL [] b8)) h1 (fun x4 h5 =>
(fun (x9 : AV) (h10 : AHeap) =>
p_store 9 x9 x4 h10 fun h11 b12 =>
joinL (fun j13 =>
loopB k (fun r16 l17 h18 =>
c 84 [(nthV A 0), (nthV A 3)] h18 (fun x21 h22 =>
joinL (fun j23 => p_if x21 (
j23 [] h22) (j13 [] h22)) fun l24 h25 =>
c 49 [(nthV A 0)] h25 (fun x28 h29 =>
p_fld x28 1 fun x30 =>
asNil (
p_faddr 0 (nthV A 0) fun x31 =>
p_load1 x31 h29 fun x32 b33 =>
p_gen (.slc 5 (.t 23) (some (.c (vi 1))) none none) [(23, x32)] h29 fun x34 h35 k36 =>
asNil (
p_faddr 0 (nthV A 0) fun x37 =>
p_store 1 x37 x34 h35 fun h38 b39 =>
p_faddr 1 x9 fun x40 =>
p_load1 x40 h38 fun x41 b42 =>
p_loadN 9 x9 h38 fun x43 b44 =>
ifB (okAll (.rd b44) h38 h38 [⟨1, (.rd b42), h38, h38⟩]) (
p_fn (nthV A 1) fun g49 a50 b51 => c g49 (appL a50 (appL [] b51)) h38 (fun x47 h48 =>
ifB (okAll .big h38 h48 [⟨3, (.rd b44), h38, h38⟩, ⟨1, (.rd b42), h38, h38⟩]) (
onFill [(0, 9, x43), (9, 9, x47)] [(vi 0), (vi 0), vS, (vi 0), (vi 0), (vi 0), (vi 0), (.int .u64 (.ofNat 0)), .nilSlice, (vi 0), (vi 0), vS, (vi 0), (vi 0), (vi 0), (vi 0), (.int .u64 (.ofNat 0)), .nilSlice] fun l52 => ifB (flatsQ l52) ((fun (x53 : AV) (h54 : AHeap) =>
ifB (okAll .new h48 h54 [⟨1, (.rd b42), h38, h38⟩]) (
onFill [(0, 1, (vi 31)), (1, 1, x41), (2, 1, x30), (8, 1, x53)] [(vi 0), (vi 0), vS, (vi 0), (vi 0), (vi 0), (vi 0), (.int .u64 (.ofNat 0)), .nilSlice] fun l55 => (fun (x56 : AV) => p_store 9 x9 x56 h54 fun h57 b58 =>
p_not (nthV A 2) fun x59 =>
p_if x59 (j13 [] h57) (r16 [] h57)) (.agg l55)) false) (.slice h48.n (nat_lit 0) 2 2 true) (alQ h48 (.cells .own 9 l52))) false) false) (fun p45 h46 => ifB (okAll .big h38 h46 [⟨3, (.rd b44), h38, h38⟩, ⟨1, (.rd b42), h38, h38⟩]) (
kp p45 h46) false)) false) (nthV A 0)) (nthV A 0)) kp) kp) [] h11) fun l14 h15 =>
p_loadN 9 x9 h15 fun x60 b61 =>
p_store 9 x0 x60 h15 fun h62 b63 =>
p_loadN 9 x0 h62 fun x64 b65 => kr x64 h62) (.ptr h5.n (nat_lit 0)) (alQ h5 (.cells .own (nat_lit 0) [(vi 0), (vi 0), vS, (vi 0), (vi 0), (vi 0), (vi 0), (.int .u64 (.ofNat 0)), .nilSlice]))) kp) (.ptr h.n (nat_lit 0)) (alQ h (.cells .own (nat_lit 0) [(vi 0), (vi 0), vS, (vi 0), (vi 0), (vi 0), (vi 0), (.int .u64 (.ofNat 0)), .nilSlice]))) false
noncomputable def h137 : FBody := fun c D k A h kr kp => ifB (Nat.beq (lenV A) 1) (
(fun (x0 : AV) (h1 : AHeap) =>
(fun (x2 : AV) => onFill [(0, 1, (.str [38, 38]))] [vS] fun l3 => ifB (flatsQ l3) ((fun (x4 : AV) (h5 : AHeap) =>
c 136 [(nthV A 0), x2, vT, x4] h5 (fun x8 h9 =>
p_store 9 x0 x8 h9 fun h10 b11 =>
p_loadN 9 x0 h10 fun x12 b13 => kr x12 h10) kp) (.slice h1.n (nat_lit 0) 1 1 true) (alQ h1 (.cells .own 1 l3))) false) (.func (.func 170) [(nthV A 0)] [])) (.ptr h.n (nat_lit 0)) (alQ h (.cells .own (nat_lit 0) [(vi 0), (vi 0), vS, (vi 0), (vi 0), (vi 0), (vi 0), (.int .u64 (.ofNat 0)), .nilSlice]))) false
noncomputable def h138 : FBody := fun c D k A h kr kp => ifB (Nat.beq (lenV A) 2) (
p_box (nthV A 0) h fun x0 h1 =>
p_loadN 0 x0 h1 fun x2 b3 =>
p_bin .geq fiGeq (nthV A 1) (vi 1) fun x4 =>
joinV (fun j5 => p_yes x4 (j5 (nthV A 1) h1) (j5 undefA h1)) fun x6 h7 =>
joinV (fun j8 => p_yes x4 (p_bin .leq fiLeq x6 (vi 3) fun x11 =>
j8 x11 h7) (j8 undefA h7)) fun x9 h10 =>
p_pick x4 x9 vF fun x12 =>
c 98 [x2, x12] h10 (fun x15 h16 =>
kr undefA h16) kp) false
noncomputable def h139 : FBody := fun c D k A h kr kp => ifB (Nat.beq (lenV A) 2) (
p_box (nthV A 0) h fun x0 h1 =>
p_box (nthV A 1) h1 fun x2 h3 =>
p_loadN 0 x0 h3 fun x4 b5 =>
p_faddr 0 x2 fun x6 =>
p_load1 x6 h3 fun x7 b8 =>
p_eq x7 (vi 9) fun x9 =>
c 98 [x4, x9] h3 (fun x12 h13 =>
p_loadN 0 x0 h13 fun x14 b15 =>
p_loadN 9 x2 h13 fun x16 b17 =>
onFill [] [(vi 0), (vi 0), vS, (vi 0), (vi 0), (vi 0), (vi 0), (.int .u64 (.ofNat 0)), .nilSlice] fun l18 => (fun (x19 : AV) => c 99 [x14, x16, x19] h13 (fun x22 h23 =>
p_faddr 8 x2 fun x24 =>
p_load1 x24 h23 fun x25 b26 =>
p_lenL x25 fun x27 =>
loopB k (fun r28 l29 h30 =>
p_bin .lss fiLss (nthV l29 0) x27 fun x31 =>
joinL (fun j32 => p_if x31 (
j32 [] h30) (kr undefA h30)) fun l33 h34 =>
joinL (fun j35 =>
p_iaddr 9 x25 (nthV l29 0) fun x38 =>
p_loadN 9 x38 h34 fun x39 b40 =>
(fun (x41 : AV) (h42 : AHeap) =>
p_store 9 x41 x39 h42 fun h43 b44 =>
p_loadN 0 x0 h43 fun x45 b46 =>
p_loadN 9 x41 h43 fun x47 b48 =>
c 171 [x45, x47] h43 (fun x51 h52 =>
j35 [] h52) kp) (.ptr h34.n (nat_lit 0)) (alQ h34 (.cells .own (nat_lit 0) [(vi 0), (vi 0), vS, (vi 0), (vi 0), (vi 0), (vi 0), (.int .u64 (.ofNat 0)), .nilSlice]))) fun l36 h37 =>
p_add (nthV l29 0) (vi 1) fun x53 =>
r28 [x53] h37) [(vi 0)] h23) kp) (.agg l18)) kp) false
noncomputable def h148 : FBody := fun c D k A h kr kp => ifB (Nat.beq (lenV A) 2) (
c 180 [(nthV A 0), (nthV A 1)] h (fun x2 h3 =>
kr x2 h3) kp) false
noncomputable def h150 : FBody := fun c D k A h kr kp => ifB (Nat.beq (lenV A) 2) (
p_lenL (nthV A 0) fun x0 =>
joinL (fun j1 =>
loopB k (fun r4 l5 h6 =>
p_bin .lss fiLss (nthV l5 1) x0 fun x7 =>
joinL (fun j8 => p_if x7 (
j8 [] h6) (j1 [(nthV l5 0)] h6)) fun l9 h10 =>
joinL (fun j11 =>
p_iaddr 1 (nthV A 0) (nthV l5 1) fun x14 =>
p_load1 x14 h10 fun x15 b16 =>
p_fn (nthV A 1) fun g21 a22 b23 => c g21 (appL a22 (appL [x15] b23)) h10 (fun x19 h20 =>
p_if x19 (kr (nthV l5 1) h20) (j11 [(nthV l5 0)] h20)) kp) fun l12 h13 =>
p_add (nthV l5 1) (vi 1) fun x24 =>
r4 [(nthV l12 0), x24] h13) [(vi 0), (vi 0)] h) fun l2 h3 =>
kr (.int .i64 (.negSucc 0)) h3) false
noncomputable def h151 : FBody := fun c D k A h kr kp => ifB (Nat.beq (lenV A) 2) (
p_box (nthV A 0) h fun x0 h1 =>
p_box (nthV A 1) h1 fun x2 h3 =>
p_faddr 4 x0 fun x4 =>
p_load1 x4 h3 fun x5 b6 =>
p_faddr 4 x2 fun x7 =>
p_load1 x7 h3 fun x8 b9 =>
p_eq x5 x8 fun x10 =>
joinV (fun j11 => p_yes x10 (p_faddr 5 x0 fun x14 =>
j11 x14 h3) (j11 undefA h3)) fun x12 h13 =>
joinV (fun j15 => p_yes x10 (p_load1 x12 h13 fun x18 b19 =>
j15 x18 h13) (j15 undefA h13)) fun x16 h17 =>
joinV (fun j20 => p_yes x10 (p_faddr 5 x2 fun x23 =>
j20 x23 h17) (j20 undefA h17)) fun x21 h22 =>
joinV (fun j24 => p_yes x10 (p_load1 x21 h22 fun x27 b28 =>
j24 x27 h22) (j24 undefA h22)) fun x25 h26 =>
joinV (fun j29 => p_yes x10 (p_eq x16 x25 fun x32 =>
j29 x32 h26) (j29 undefA h26)) fun x30 h31 =>
p_pick x10 x30 vF fun x33 =>
joinV (fun j34 => p_yes x33 (p_faddr 6 x0 fun x37 =>
j34 x37 h31) (j34 undefA h31)) fun x35 h36 =>
joinV (fun j38 => p_yes x33 (p_load1 x35 h36 fun x41 b42 =>
j38 x41 h36) (j38 undefA h36)) fun x39 h40 =>
joinV (fun j43 => p_yes x33 (p_faddr 6 x2 fun x46 =>
j43 x46 h40) (j43 undefA h40)) fun x44 h45 =>
joinV (fun j47 => p_yes x33 (p_load1 x44 h45 fun x50 b51 =>
j47 x50 h45) (j47 undefA h45)) fun x48 h49 =>
joinV (fun j52 => p_yes x33 (p_eq x39 x48 fun x55 =>
j52 x55 h49) (j52 undefA h49)) fun x53 h54 =>
p_pick x33 x53 vF fun x56 =>
joinV (fun j57 => p_yes x56 (p_faddr 7 x0 fun x60 =>
j57 x60 h54) (j57 undefA h54)) fun x58 h59 =>
joinV (fun j61 => p_yes x56 (p_load1 x58 h59 fun x64 b65 =>
j61 x64 h59) (j61 undefA h59)) fun x62 h63 =>
joinV (fun j66 => p_yes x56 (p_faddr 7 x2 fun x69 =>
j66 x69 h63) (j66 undefA h63)) fun x67 h68 =>
joinV (fun j70 => p_yes x56 (p_load1 x67 h68 fun x73 b74 =>
j70 x73 h68) (j70 undefA h68)) fun x71 h72 =>
joinV (fun j75 => p_yes x56 (p_eq x62 x71 fun x78 =>
j75 x78 h72) (j75 undefA h72)) fun x76 h77 =>
p_pick x56 x76 vF fun x79 =>
c 114 [x79] h77 (fun x82 h83 =>
kr undefA h83) kp) false
noncomputable def h152 : FBody := fun c D k A h kr kp => ifB (Nat.beq (lenV A) 3) (
p_box (nthV A 1) h fun x0 h1 =>
p_faddr 8 x0 fun x2 =>
p_load1 x2 h1 fun x3 b4 =>
p_lenL x3 fun x5 =>
p_lenL (nthV A 2) fun x6 =>
p_eq x5 x6 fun x7 =>
c 114 [x7] h1 (fun x10 h11 =>
p_faddr 8 x0 fun x12 =>
p_load1 x12 h11 fun x13 b14 =>
p_lenL x13 fun x15 =>
loopB k (fun r16 l17 h18 =>
p_bin .lss fiLss (nthV l17 0) x15 fun x19 =>
joinL (fun j20 => p_if x19 (
j20 [] h18) (kr undefA h18)) fun l21 h22 =>
joinL (fun j23 =>
p_iaddr 9 x13 (nthV l17 0) fun x26 =>
p_loadN 9 x26 h22 fun x27 b28 =>
(fun (x29 : AV) (h30 : AHeap) =>
p_store 9 x29 x27 h30 fun h31 b32 =>
p_loadN 9 x29 h31 fun x33 b34 =>
p_iaddr 1 (nthV A 2) (nthV l17 0) fun x35 =>
p_load1 x35 h31 fun x36 b37 =>
ifB (okAll (.rd b37) h31 h31 [⟨1, (.rd b34), h31, h31⟩]) (
c 119 [(nthV A 0), x33, x36] h31 (fun x40 h41 =>
j23 [] h41) kp) false) (.ptr h22.n (nat_lit 0)) (alQ h22 (.cells .own (nat_lit 0) [(vi 0), (vi 0), vS, (vi 0), (vi 0), (vi 0), (vi 0), (.int .u64 (.ofNat 0)), .nilSlice]))) fun l24 h25 =>
p_add (nthV l17 0) (vi 1) fun x42 =>
r16 [x42] h25) [(vi 0)] h11) kp) false
noncomputable def h153 : FBody := fun c D k A h kr kp => ifB (Nat.beq (lenV A) 2) (
p_box (nthV A 1) h fun x0 h1 =>
onFill [] [(vi 0), (vi 0), vS, (vi 0), (vi 0), (vi 0), (vi 0), (.int .u64 (.ofNat 0)), .nilSlice] fun l2 => (fun (x3 : AV) => (fun (x4 : AV) (h5 : AHeap) =>
p_store 9 x4 x3 h5 fun h6 b7 =>
p_faddr 0 x0 fun x8 =>
p_load1 x8 h6 fun x9 b10 =>
c 122 [x9] h6 (fun x13 h14 =>
p_bin .neq fiNeq x13 (vi 0) fun x15 =>
joinL (fun j16 => p_if x15 (
p_faddr 6 x0 fun x19 =>
p_load1 x19 h14 fun x20 b21 =>
p_faddr 6 x4 fun x22 =>
p_store 1 x22 x20 h14 fun h23 b24 =>
j16 [] h23) (j16 [] h14)) fun l17 h18 =>
p_faddr 0 x0 fun x25 =>
p_load1 x25 h18 fun x26 b27 =>
p_eq x26 (vi 11) fun x28 =>
joinL (fun j29 => p_if x28 (
p_faddr 4 x0 fun x32 =>
p_load1 x32 h18 fun x33 b34 =>
p_faddr 4 x4 fun x35 =>
p_store 1 x35 x33 h18 fun h36 b37 =>
j29 [] h36) (j29 [] h18)) fun l30 h31 =>
p_loadN 9 x0 h31 fun x38 b39 =>
p_loadN 9 x4 h31 fun x40 b41 =>
c 151 [x38, x40] h31 (fun x44 h45 =>
p_faddr 0 x0 fun x46 =>
p_load1 x46 h45 fun x47 b48 =>
p_eq x47 (vi 10) fun x49 =>
p_if x49 (p_loadN 9 x0 h45 fun x50 b51 =>
onFill [(0, 1, (vi 3)), (1, 1, (vi 2))] [(vi 0), (vi 0)] fun l52 => ifB (flatsQ l52) ((fun (x53 : AV) (h54 : AHeap) =>
c 152 [(nthV A 0), x50, x53] h54 (fun x57 h58 =>
kr undefA h58) kp) (.slice h45.n (nat_lit 0) 2 2 true) (alQ h45 (.cells .own 1 l52))) false) (p_eq x47 (vi 11) fun x59 =>
p_if x59 (p_faddr 4 x0 fun x60 =>
p_load1 x60 h45 fun x61 b62 =>
asNil (
p_faddr 6 (nthV A 0) fun x63 =>
p_faddr 1 x63 fun x64 =>
p_load1 x64 h45 fun x65 b66 =>
ifB (okAll (.rd b66) h45 h45 [⟨1, (.rd b62), h45, h45⟩]) (
p_bin .geq fiGeq x61 x65 fun x67 =>
joinC (fun j68 => p_yes x67 (p_faddr 4 x0 fun x73 =>
j68 x73 h45 .free h45) (j68 undefA h45 .free h45)) fun x69 h70 k71 h72 =>
joinC (fun j74 => p_yes x67 (p_load1 x69 h70 fun x79 b80 =>
j74 x79 h70 (.rd b80) h70) (j74 undefA h70 .free h70)) fun x75 h76 k77 h78 =>
joinC (fun j81 => p_yes x67 (j81 (nthV A 0) h76 .free h76) (j81 undefA h76 .free h76)) fun x82 h83 k84 h85 =>
joinC (fun j86 => p_yes x67 (asNil (
j86 x82 h83 .free h83) x82) (j86 undefA h83 .free h83)) fun x87 h88 k89 h90 =>
joinC (fun j91 => p_yes x67 (p_faddr 6 x87 fun x96 =>
j91 x96 h88 .free h88) (j91 undefA h88 .free h88)) fun x92 h93 k94 h95 =>
joinC (fun j97 => p_yes x67 (p_faddr 2 x92 fun x102 =>
j97 x102 h93 .free h93) (j97 undefA h93 .free h93)) fun x98 h99 k100 h101 =>
joinC (fun j103 => p_yes x67 (p_load1 x98 h99 fun x108 b109 =>
ifB (okAll (.rd b109) h99 h99 [⟨10, k77, h78, h76⟩]) (
j103 x108 h99 (.rd b109) h99) false) (j103 undefA h99 .free h99)) fun x104 h105 k106 h107 =>
joinC (fun j110 => p_yes x67 (p_lenL x104 fun x115 =>
j110 x115 h105 .free h105) (j110 undefA h105 .free h105)) fun x111 h112 k113 h114 =>
joinC (fun j116 => p_yes x67 (p_bin .lss fiLss x75 x111 fun x121 =>
j116 x121 h112 .free h112) (j116 undefA h112 .free h112)) fun x117 h118 k119 h120 =>
p_pick x67 x117 vF fun x122 =>
c 114 [x122] h118 (fun x125 h126 =>
p_loadN 9 x0 h126 fun x127 b128 =>
onFill [(0, 1, (vi 2))] [(vi 0)] fun l129 => ifB (flatsQ l129) ((fun (x130 : AV) (h131 : AHeap) =>
c 152 [(nthV A 0), x127, x130] h131 (fun x134 h135 =>
kr undefA h135) kp) (.slice h126.n (nat_lit 0) 1 1 true) (alQ h126 (.cells .own 1 l129))) false) kp) false) (nthV A 0)) (p_eq x47 (vi 12) fun x136 =>
joinL (fun j137 => p_if x136 (
j137 [x136] h45) (p_eq x47 (vi 13) fun x140 =>
j137 [x140] h45)) fun l138 h139 =>
p_if (nthV l138 0) (p_faddr 6 x0 fun x141 =>
p_load1 x141 h139 fun x142 b143 =>
asNil (
p_faddr 0 (nthV A 0) fun x144 =>
p_faddr 4 x144 fun x145 =>
p_load1 x145 h139 fun x146 b147 =>
ifB (okAll (.rd b147) h139 h139 [⟨1, (.rd b143), h139, h139⟩]) (
p_lenL x146 fun x148 =>
c 118 [x142, x148] h139 (fun x151 h152 =>
c 114 [x151] h152 (fun x155 h156 =>
onFill [(0, 1, (vi 2))] [(vi 0)] fun l157 => ifB (flatsQ l157) ((fun (x158 : AV) (h159 : AHeap) =>
p_loadN 9 x0 h159 fun x160 b161 =>
ifB (okAll (.rd b161) h159 h159 [⟨2, .new, h156, h159⟩]) (
p_faddr 8 x0 fun x162 =>
p_load1 x162 h159 fun x163 b164 =>
ifB (okAll (.rd b164) h159 h159 [⟨1, (.rd b161), h159, h159⟩, ⟨2, .new, h156, h159⟩]) (
p_lenL x163 fun x165 =>
c 73 [x158, x165] h159 (fun x168 h169 =>
ifB (okAll .big h159 h169 [⟨1, (.rd b161), h159, h159⟩]) (
c 152 [(nthV A 0), x160, x168] h169 (fun x172 h173 =>
kr undefA h173) kp) false) (fun p166 h167 => ifB (okAll .big h159 h167 [⟨1, (.rd b161), h159, h159⟩]) (
kp p166 h167) false)) false) false) (.slice h156.n (nat_lit 0) 1 1 true) (alQ h156 (.cells .own 1 l157))) false) kp) kp) false) (nthV A 0)) (p_eq x47 (vi 14) fun x174 =>
joinL (fun j175 => p_if x174 (
j175 [x174] h139) (p_eq x47 (vi 15) fun x178 =>
j175 [x178] h139)) fun l176 h177 =>
p_if (nthV l176 0) (p_faddr 6 x0 fun x179 =>
p_load1 x179 h177 fun x180 b181 =>
asNil (
p_faddr 0 (nthV A 0) fun x182 =>
p_faddr 1 x182 fun x183 =>
p_load1 x183 h177 fun x184 b185 =>
ifB (okAll (.rd b185) h177 h177 [⟨1, (.rd b181), h177, h177⟩]) (
c 118 [x180, x184] h177 (fun x188 h189 =>
c 114 [x188] h189 (fun x192 h193 =>
p_loadN 9 x0 h193 fun x194 b195 =>
c 152 [(nthV A 0), x194, .nilSlice] h193 (fun x198 h199 =>
kr undefA h199) kp) kp) kp) false) (nthV A 0)) (p_eq x47 (vi 16) fun x200 =>
p_if x200 (p_faddr 6 x0 fun x201 =>
p_load1 x201 h177 fun x202 b203 =>
asNil (
p_faddr 0 (nthV A 0) fun x204 =>
p_faddr 3 x204 fun x205 =>
p_load1 x205 h177 fun x206 b207 =>
ifB (okAll (.rd b207) h177 h177 [⟨1, (.rd b203), h177, h177⟩]) (
p_lenL x206 fun x208 =>
c 118 [x202, x208] h177 (fun x211 h212 =>
c 114 [x211] h212 (fun x215 h216 =>
p_loadN 9 x0 h216 fun x217 b218 =>
onFill [(0, 1, (vi 2))] [(vi 0)] fun l219 => ifB (flatsQ l219) ((fun (x220 : AV) (h221 : AHeap) =>
c 152 [(nthV A 0), x217, x220] h221 (fun x224 h225 =>
kr undefA h225) kp) (.slice h216.n (nat_lit 0) 1 1 true) (alQ h216 (.cells .own 1 l219))) false) kp) kp) false) (nthV A 0)) (p_eq x47 (vi 17) fun x226 =>
p_if x226 (p_faddr 6 x0 fun x227 =>
p_load1 x227 h177 fun x228 b229 =>
asNil (
p_faddr 0 (nthV A 0) fun x230 =>
p_faddr 3 x230 fun x231 =>
p_load1 x231 h177 fun x232 b233 =>
ifB (okAll (.rd b233) h177 h177 [⟨1, (.rd b229), h177, h177⟩]) (
p_lenL x232 fun x234 =>
c 118 [x228, x234] h177 (fun x237 h238 =>
c 114 [x237] h238 (fun x241 h242 =>
p_loadN 9 x0 h242 fun x243 b244 =>
onFill [(0, 1, (vi 3))] [(vi 0)] fun l245 => ifB (flatsQ l245) ((fun (x246 : AV) (h247 : AHeap) =>
c 152 [(nthV A 0), x243, x246] h247 (fun x250 h251 =>
kr undefA h251) kp) (.slice h242.n (nat_lit 0) 1 1 true) (alQ h242 (.cells .own 1 l245))) false) kp) kp) false) (nthV A 0)) (p_eq x47 (vi 18) fun x252 =>
joinL (fun j253 => p_if x252 (
j253 [x252] h177) (p_eq x47 (vi 19) fun x256 =>
j253 [x256] h177)) fun l254 h255 =>
p_if (nthV l254 0) (p_faddr 6 x0 fun x257 =>
p_load1 x257 h255 fun x258 b259 =>
asNil (
p_faddr 0 (nthV A 0) fun x260 =>
p_faddr 2 x260 fun x261 =>
p_load1 x261 h255 fun x262 b263 =>
ifB (okAll (.rd b263) h255 h255 [⟨1, (.rd b259), h255, h255⟩]) (
c 118 [x258, x262] h255 (fun x266 h267 =>
c 114 [x266] h267 (fun x270 h271 =>
p_loadN 9 x0 h271 fun x272 b273 =>
onFill [(0, 1, (vi 2))] [(vi 0)] fun l274 => ifB (flatsQ l274) ((fun (x275 : AV) (h276 : AHeap) =>
c 152 [(nthV A 0), x272, x275] h276 (fun x279 h280 =>
kr undefA h280) kp) (.slice h271.n (nat_lit 0) 1 1 true) (alQ h271 (.cells .own 1 l274))) false) kp) kp) false) (nthV A 0)) (p_eq x47 (vi 20) fun x281 =>
p_if x281 (p_faddr 6 x0 fun x282 =>
p_load1 x282 h255 fun x283 b284 =>
asNil (
p_faddr 0 (nthV A 0) fun x285 =>
p_faddr 2 x285 fun x286 =>
p_load1 x286 h255 fun x287 b288 =>
ifB (okAll (.rd b288) h255 h255 [⟨1, (.rd b284), h255, h255⟩]) (
c 118 [x283, x287] h255 (fun x291 h292 =>
c 114 [x291] h292 (fun x295 h296 =>
p_loadN 9 x0 h296 fun x297 b298 =>
onFill [(0, 1, (vi 3))] [(vi 0)] fun l299 => ifB (flatsQ l299) ((fun (x300 : AV) (h301 : AHeap) =>
c 152 [(nthV A 0), x297, x300] h301 (fun x304 h305 =>
kr undefA h305) kp) (.slice h296.n (nat_lit 0) 1 1 true) (alQ h296 (.cells .own 1 l299))) false) kp) kp) false) (nthV A 0)) (p_eq x47 (vi 21) fun x306 =>
p_if x306 (p_faddr 8 x0 fun x307 =>
p_load1 x307 h255 fun x308 b309 =>
p_lenL x308 fun x310 =>
p_eq x310 (vi 3) fun x311 =>
joinL (fun j312 => p_if x311 (
p_loadN 9 x0 h255 fun x315 b316 =>
onFill [(0, 1, (vi 2)), (1, 1, (vi 0)), (2, 1, (vi 0))] [(vi 0), (vi 0), (vi 0)] fun l317 => ifB (flatsQ l317) ((fun (x318 : AV) (h319 : AHeap) =>
c 152 [(nthV A 0), x315, x318] h319 (fun x322 h323 =>
kr undefA h323) kp) (.slice h255.n (nat_lit 0) 3 3 true) (alQ h255 (.cells .own 1 l317))) false) (j312 [] h255)) fun l313 h314 =>
p_loadN 9 x0 h314 fun x324 b325 =>
onFill [(0, 1, (vi 2)), (1, 1, (vi 0))] [(vi 0), (vi 0)] fun l326 => ifB (flatsQ l326) ((fun (x327 : AV) (h328 : AHeap) =>
c 152 [(nthV A 0), x324, x327] h328 (fun x331 h332 =>
kr undefA h332) kp) (.slice h314.n (nat_lit 0) 2 2 true) (alQ h314 (.cells .own 1 l326))) false) (p_eq x47 (vi 22) fun x333 =>
p_if x333 (p_loadN 9 x0 h255 fun x334 b335 =>
onFill [(0, 1, (vi 2)), (1, 1, (vi 0))] [(vi 0), (vi 0)] fun l336 => ifB (flatsQ l336) ((fun (x337 : AV) (h338 : AHeap) =>
c 152 [(nthV A 0), x334, x337] h338 (fun x341 h342 =>
kr undefA h342) kp) (.slice h255.n (nat_lit 0) 2 2 true) (alQ h255 (.cells .own 1 l336))) false) (p_eq x47 (vi 23) fun x343 =>
p_if x343 (p_loadN 9 x0 h255 fun x344 b345 =>
c 152 [(nthV A 0), x344, .nilSlice] h255 (fun x348 h349 =>
kr undefA h349) kp) (p_eq x47 (vi 24) fun x350 =>
p_if x350 (p_loadN 9 x0 h255 fun x351 b352 =>
onFill [(0, 1, (vi 2))] [(vi 0)] fun l353 => ifB (flatsQ l353) ((fun (x354 : AV) (h355 : AHeap) =>
c 152 [(nthV A 0), x351, x354] h355 (fun x358 h359 =>
kr undefA h359) kp) (.slice h255.n (nat_lit 0) 1 1 true) (alQ h255 (.cells .own 1 l353))) false) (c 114 [vF] h255 (fun x362 h363 =>
kr undefA h363) kp))))))))))))) kp) kp) (.ptr h1.n (nat_lit 0)) (alQ h1 (.cells .own (nat_lit 0) [(vi 0), (vi 0), vS, (vi 0), (vi 0), (vi 0), (vi 0), (.int .u64 (.ofNat 0)), .nilSlice]))) (.agg l2)) false
noncomputable def h154 : FBody := fun c D k A h kr kp => ifB (Nat.beq (lenV A) 2) (
p_box (nthV A 0) h fun x0 h1 =>
p_box (nthV A 1) h1 fun x2 h3 =>
onFill [] [(vi 0), (vi 0), vS, (vi 0), (vi 0), (vi 0), (vi 0), (.int .u64 (.ofNat 0)), .nilSlice] fun l4 => (fun (x5 : AV) => (fun (x6 : AV) (h7 : AHeap) =>
p_store 9 x6 x5 h7 fun h8 b9 =>
p_faddr 0 x2 fun x10 =>
p_load1 x10 h8 fun x11 b12 =>
joinL (fun j13 =>
p_eq x11 (vi 25) fun x16 =>
p_if x16 (p_faddr 4 x2 fun x17 =>
p_load1 x17 h8 fun x18 b19 =>
p_bin .geq fiGeq x18 (vi 0) fun x20 =>
c 114 [x20] h8 (fun x23 h24 =>
p_faddr 4 x2 fun x25 =>
p_load1 x25 h24 fun x26 b27 =>
p_faddr 4 x6 fun x28 =>
p_store 1 x28 x26 h24 fun h29 b30 =>
p_load1 x0 h29 fun x31 b32 =>
p_loadN 9 x2 h29 fun x33 b34 =>
c 152 [x31, x33, .nilSlice] h29 (fun x37 h38 =>
j13 [] h38) kp) kp) (p_eq x11 (vi 26) fun x39 =>
p_if x39 (p_faddr 7 x2 fun x40 =>
p_load1 x40 h8 fun x41 b42 =>
p_faddr 7 x6 fun x43 =>
p_store 1 x43 x41 h8 fun h44 b45 =>
p_load1 x0 h44 fun x46 b47 =>
p_loadN 9 x2 h44 fun x48 b49 =>
c 152 [x46, x48, .nilSlice] h44 (fun x52 h53 =>
j13 [] h53) kp) (p_eq x11 (vi 27) fun x54 =>
p_if x54 (p_faddr 4 x2 fun x55 =>
p_load1 x55 h8 fun x56 b57 =>
p_eq x56 (vi 0) fun x58 =>
joinV (fun j59 => p_no x58 (p_faddr 4 x2 fun x62 =>
j59 x62 h8) (j59 undefA h8)) fun x60 h61 =>
joinV (fun j63 => p_no x58 (p_load1 x60 h61 fun x66 b67 =>
j63 x66 h61) (j63 undefA h61)) fun x64 h65 =>
joinV (fun j68 => p_no x58 (p_eq x64 (vi 1) fun x71 =>
j68 x71 h65) (j68 undefA h65)) fun x69 h70 =>
p_pick x58 vT x69 fun x72 =>
c 114 [x72] h70 (fun x75 h76 =>
p_faddr 4 x2 fun x77 =>
p_load1 x77 h76 fun x78 b79 =>
p_faddr 4 x6 fun x80 =>
p_store 1 x80 x78 h76 fun h81 b82 =>
p_load1 x0 h81 fun x83 b84 =>
p_loadN 9 x2 h81 fun x85 b86 =>
c 152 [x83, x85, .nilSlice] h81 (fun x89 h90 =>
j13 [] h90) kp) kp) (p_eq x11 (vi 32) fun x91 =>
p_if x91 (p_faddr 4 x2 fun x92 =>
p_load1 x92 h8 fun x93 b94 =>
p_load1 x0 h8 fun x95 b96 =>
ifB (okAll (.rd b96) h8 h8 [⟨1, (.rd b94), h8, h8⟩]) (
asNil (
p_faddr 6 x95 fun x97 =>
p_faddr 2 x97 fun x98 =>
p_load1 x98 h8 fun x99 b100 =>
ifB (okAll (.rd b100) h8 h8 [⟨1, (.rd b94), h8, h8⟩]) (
p_lenL x99 fun x101 =>
c 118 [x93, x101] h8 (fun x104 h105 =>
c 114 [x104] h105 (fun x108 h109 =>
p_faddr 4 x2 fun x110 =>
p_load1 x110 h109 fun x111 b112 =>
p_faddr 4 x6 fun x113 =>
p_store 1 x113 x111 h109 fun h114 b115 =>
p_load1 x0 h114 fun x116 b117 =>
p_loadN 9 x2 h114 fun x118 b119 =>
c 152 [x116, x118, .nilSlice] h114 (fun x122 h123 =>
j13 [] h123) kp) kp) kp) false) x95) false) (p_eq x11 (vi 33) fun x124 =>
p_if x124 (p_faddr 4 x2 fun x125 =>
p_load1 x125 h8 fun x126 b127 =>
p_load1 x0 h8 fun x128 b129 =>
ifB (okAll (.rd b129) h8 h8 [⟨1, (.rd b127), h8, h8⟩]) (
asNil (
p_faddr 0 x128 fun x130 =>
p_faddr 0 x130 fun x131 =>
p_load1 x131 h8 fun x132 b133 =>
ifB (okAll (.rd b133) h8 h8 [⟨1, (.rd b127), h8, h8⟩]) (
p_lenL x132 fun x134 =>
c 118 [x126, x134] h8 (fun x137 h138 =>
c 114 [x137] h138 (fun x141 h142 =>
p_faddr 4 x2 fun x143 =>
p_load1 x143 h142 fun x144 b145 =>
p_faddr 4 x6 fun x146 =>
p_store 1 x146 x144 h142 fun h147 b148 =>
p_load1 x0 h147 fun x149 b150 =>
p_loadN 9 x2 h147 fun x151 b152 =>
c 152 [x149, x151, .nilSlice] h147 (fun x155 h156 =>
j13 [] h156) kp) kp) kp) false) x128) false) (p_eq x11 (vi 34) fun x157 =>
p_if x157 (p_faddr 5 x2 fun x158 =>
p_load1 x158 h8 fun x159 b160 =>
p_bin .geq fiGeq x159 (vi 1) fun x161 =>
joinC (fun j162 => p_yes x161 (p_faddr 5 x2 fun x167 =>
j162 x167 h8 .free h8) (j162 undefA h8 .free h8)) fun x163 h164 k165 h166 =>
joinC (fun j168 => p_yes x161 (p_load1 x163 h164 fun x173 b174 =>
j168 x173 h164 (.rd b174) h164) (j168 undefA h164 .free h164)) fun x169 h170 k171 h172 =>
joinC (fun j175 => p_yes x161 (p_bin .leq fiLeq x169 (vi 64) fun x180 =>
j175 x180 h170 .free h170) (j175 undefA h170 .free h170)) fun x176 h177 k178 h179 =>
p_pick x161 x176 vF fun x181 =>
joinC (fun j182 => p_yes x181 (p_faddr 4 x2 fun x187 =>
j182 x187 h177 .free h177) (j182 undefA h177 .free h177)) fun x183 h184 k185 h186 =>
joinC (fun j188 => p_yes x181 (p_load1 x183 h184 fun x193 b194 =>
j188 x193 h184 (.rd b194) h184) (j188 undefA h184 .free h184)) fun x189 h190 k191 h192 =>
joinC (fun j195 => p_yes x181 (p_bin .geq fiGeq x189 (vi 0) fun x200 =>
j195 x200 h190 .free h190) (j195 undefA h190 .free h190)) fun x196 h197 k198 h199 =>
p_pick x181 x196 vF fun x201 =>
joinC (fun j202 => p_yes x201 (p_faddr 4 x2 fun x207 =>
j202 x207 h197 .free h197) (j202 undefA h197 .free h197)) fun x203 h204 k205 h206 =>
joinC (fun j208 => p_yes x201 (p_load1 x203 h204 fun x213 b214 =>
j208 x213 h204 (.rd b214) h204) (j208 undefA h204 .free h204)) fun x209 h210 k211 h212 =>
joinC (fun j215 => p_yes x201 (p_load1 x0 h210 fun x220 b221 =>
ifB (okAll (.rd b221) h210 h210 [⟨15, k211, h212, h210⟩]) (
j215 x220 h210 (.rd b221) h210) false) (j215 undefA h210 .free h210)) fun x216 h217 k218 h219 =>
joinC (fun j222 => p_yes x201 (asNil (
j222 x216 h217 .free h217) x216) (j222 undefA h217 .free h217)) fun x223 h224 k225 h226 =>
joinC (fun j227 => p_yes x201 (p_faddr 0 x223 fun x232 =>
j227 x232 h224 .free h224) (j227 undefA h224 .free h224)) fun x228 h229 k230 h231 =>
joinC (fun j233 => p_yes x201 (p_faddr 0 x228 fun x238 =>
j233 x238 h229 .free h229) (j233 undefA h229 .free h229)) fun x234 h235 k236 h237 =>
joinC (fun j239 => p_yes x201 (p_load1 x234 h235 fun x244 b245 =>
ifB (okAll (.rd b245) h235 h235 [⟨15, k211, h212, h210⟩]) (
j239 x244 h235 (.rd b245) h235) false) (j239 undefA h235 .free h235)) fun x240 h241 k242 h243 =>
joinC (fun j246 => p_yes x201 (p_lenL x240 fun x251 =>
j246 x251 h241 .free h241) (j246 undefA h241 .free h241)) fun x247 h248 k249 h250 =>
joinC (fun j252 => p_yes x201 (p_faddr 5 x2 fun x257 =>
j252 x257 h248 .free h248) (j252 undefA h248 .free h248)) fun x253 h254 k255 h256 =>
joinC (fun j258 => p_yes x201 (p_load1 x253 h254 fun x263 b264 =>
ifB (okAll (.rd b264) h254 h254 [⟨20, k242, h243, h241⟩, ⟨16, k218, h219, h217⟩, ⟨15, k211, h212, h210⟩]) (
j258 x263 h254 (.rd b264) h254) false) (j258 undefA h254 .free h254)) fun x259 h260 k261 h262 =>
joinC (fun j265 => p_yes x201 (p_bin .sub fiSub x247 x259 fun x270 =>
j265 x270 h260 .free h260) (j265 undefA h260 .free h260)) fun x266 h267 k268 h269 =>
joinC (fun j271 => p_yes x201 (p_bin .leq fiLeq x209 x266 fun x276 =>
j271 x276 h267 .free h267) (j271 undefA h267 .free h267)) fun x272 h273 k274 h275 =>
p_pick x201 x272 vF fun x277 =>
c 114 [x277] h273 (fun x280 h281 =>
p_load1 x0 h281 fun x282 b283 =>
asNil (
p_faddr 0 x282 fun x284 =>
p_faddr 0 x284 fun x285 =>
p_load1 x285 h281 fun x286 b287 =>
p_faddr 4 x2 fun x288 =>
p_load1 x288 h281 fun x289 b290 =>
ifB (okAll (.rd b290) h281 h281 [⟨4, (.rd b287), h281, h281⟩, ⟨0, (.rd b283), h281, h281⟩]) (
p_faddr 4 x2 fun x291 =>
p_load1 x291 h281 fun x292 b293 =>
ifB (okAll (.rd b293) h281 h281 [⟨6, (.rd b290), h281, h281⟩, ⟨4, (.rd b287), h281, h281⟩, ⟨0, (.rd b283), h281, h281⟩]) (
p_faddr 5 x2 fun x294 =>
p_load1 x294 h281 fun x295 b296 =>
ifB (okAll (.rd b296) h281 h281 [⟨8, (.rd b293), h281, h281⟩, ⟨6, (.rd b290), h281, h281⟩, ⟨4, (.rd b287), h281, h281⟩, ⟨0, (.rd b283), h281, h281⟩]) (
p_add x292 x295 fun x297 =>
p_gen (.slc 1 (.t 116) (some (.t 118)) (some (.t 123)) none) [(116, x286), (118, x289), (123, x297)] h281 fun x298 h299 k300 =>
(fun (x301 : AV) => c 115 [x298, x301] h299 (fun x304 h305 =>
p_not x304 fun x306 =>
c 114 [x306] h305 (fun x309 h310 =>
p_faddr 4 x2 fun x311 =>
p_load1 x311 h310 fun x312 b313 =>
p_faddr 5 x2 fun x314 =>
p_load1 x314 h310 fun x315 b316 =>
ifB (okAll (.rd b316) h310 h310 [⟨1, (.rd b313), h310, h310⟩]) (
p_faddr 4 x6 fun x317 =>
p_store 1 x317 x312 h310 fun h318 b319 =>
ifB (okAll (.wr b319) h310 h318 [⟨3, (.rd b316), h310, h310⟩]) (
p_faddr 5 x6 fun x320 =>
p_store 1 x320 x315 h318 fun h321 b322 =>
p_load1 x0 h321 fun x323 b324 =>
p_loadN 9 x2 h321 fun x325 b326 =>
onFill [(0, 1, (vi 2))] [(vi 0)] fun l327 => ifB (flatsQ l327) ((fun (x328 : AV) (h329 : AHeap) =>
c 152 [x323, x325, x328] h329 (fun x332 h333 =>
j13 [] h333) kp) (.slice h321.n (nat_lit 0) 1 1 true) (alQ h321 (.cells .own 1 l327))) false) false) false) kp) kp) (.func (.func 181) [] [x0, x2])) false) false) false) x282) kp) (p_eq x11 (vi 30) fun x334 =>
p_if x334 (onFill [(0, 1, (.str [45])), (1, 1, (.str [33])), (2, 1, (.str [105, 110, 116])), (3, 1, (.str [102, 108, 111, 97, 116]))] [vS, vS, vS, vS] fun l335 => ifB (flatsQ l335) ((fun (x336 : AV) (h337 : AHeap) =>
p_faddr 2 x2 fun x338 =>
p_load1 x338 h337 fun x339 b340 =>
c 128 [x336, x339] h337 (fun x343 h344 =>
c 114 [x343] h344 (fun x347 h348 =>
p_load1 x0 h348 fun x349 b350 =>
p_loadN 9 x2 h348 fun x351 b352 =>
onFill [(0, 1, (vi 2))] [(vi 0)] fun l353 => ifB (flatsQ l353) ((fun (x354 : AV) (h355 : AHeap) =>
c 152 [x349, x351, x354] h355 (fun x358 h359 =>
j13 [] h359) kp) (.slice h348.n (nat_lit 0) 1 1 true) (alQ h348 (.cells .own 1 l353))) false) kp) kp) (.slice h8.n (nat_lit 0) 4 4 true) (alQ h8 (.cells .own 1 l335))) false) (p_eq x11 (vi 31) fun x360 =>
p_if x360 (onFill [(0, 1, (.str [124, 124])), (1, 1, (.str [38, 38])), (2, 1, (.str [61, 61])), (3, 1, (.str [33, 61])), (4, 1, (.str [60])), (5, 1, (.str [60, 61])), (6, 1, (.str [62])), (7, 1, (.str [62, 61])), (8, 1, (.str [43])), (9, 1, (.str [45])), (10, 1, (.str [42])), (11, 1, (.str [47])), (12, 1, (.str [37]))] [vS, vS, vS, vS, vS, vS, vS, vS, vS, vS, vS, vS, vS] fun l361 => ifB (flatsQ l361) ((fun (x362 : AV) (h363 : AHeap) =>
p_faddr 2 x2 fun x364 =>
p_load1 x364 h363 fun x365 b366 =>
c 128 [x362, x365] h363 (fun x369 h370 =>
c 114 [x369] h370 (fun x373 h374 =>
p_load1 x0 h374 fun x375 b376 =>
p_loadN 9 x2 h374 fun x377 b378 =>
onFill [(0, 1, (vi 2)), (1, 1, (vi 2))] [(vi 0), (vi 0)] fun l379 => ifB (flatsQ l379) ((fun (x380 : AV) (h381 : AHeap) =>
c 152 [x375, x377, x380] h381 (fun x384 h385 =>
j13 [] h385) kp) (.slice h374.n (nat_lit 0) 2 2 true) (alQ h374 (.cells .own 1 l379))) false) kp) kp) (.slice h8.n (nat_lit 0) 13 13 true) (alQ h8 (.cells .own 1 l361))) false) (c 114 [vF] h8 (fun x388 h389 =>
j13 [] h389) kp))))))))) fun l14 h15 =>
p_loadN 9 x2 h15 fun x390 b391 =>
p_loadN 9 x6 h15 fun x392 b393 =>
c 151 [x390, x392] h15 (fun x396 h397 =>
kr undefA h397) kp) (.ptr h3.n (nat_lit 0)) (alQ h3 (.cells .own (nat_lit 0) [(vi 0), (vi 0), vS, (vi 0), (vi 0), (vi 0), (vi 0), (.int .u64 (.ofNat 0)), .nilSlice]))) (.agg l4)) false
noncomputable def h155 : FBody := fun c D k A h kr kp => ifB (Nat.beq (lenV A) 2) (
p_cvi .u64 (nthV A 0) fun x0 =>
p_cvi .u64 (nthV A 1) fun x1 =>
p_gen (.bin .mul (.t 8) (.t 10)) [(8, x0), (10, x1)] h fun x2 h3 k4 =>
p_gen (.bin .shr (.t 12) (.c (.int .u64 (.ofNat 32)))) [(12, x2)] h3 fun x5 h6 k7 =>
p_cvi .u32 x5 fun x8 =>
p_cvi .u32 x2 fun x9 =>
kr (.tuple [x8, x9]) h6) false
noncomputable def h156 : FBody := fun c D k A h kr kp => ifB (Nat.beq (lenV A) 2) (
p_gen (.bin .and (.t 14) (.c (.int .u64 (.ofNat 4294967295)))) [(14, (nthV A 0))] h fun x0 h1 k2 =>
p_gen (.bin .shr (.t 16) (.c (.int .u64 (.ofNat 32)))) [(16, (nthV A 0))] h1 fun x3 h4 k5 =>
p_gen (.bin .and (.t 18) (.c (.int .u64 (.ofNat 4294967295)))) [(18, (nthV A 1))] h4 fun x6 h7 k8 =>
p_gen (.bin .shr (.t 20) (.c (.int .u64 (.ofNat 32)))) [(20, (nthV A 1))] h7 fun x9 h10 k11 =>
p_gen (.bin .mul (.t 22) (.t 23)) [(22, x0), (23, x6)] h10 fun x12 h13 k14 =>
p_gen (.bin .mul (.t 25) (.t 26)) [(25, x3), (26, x6)] h13 fun x15 h16 k17 =>
p_gen (.bin .shr (.t 28) (.c (.int .u64 (.ofNat 32)))) [(28, x12)] h16 fun x18 h19 k20 =>
p_add x15 x18 fun x21 =>
p_gen (.bin .and (.t 31) (.c (.int .u64 (.ofNat 4294967295)))) [(31, x21)] h19 fun x22 h23 k24 =>
p_gen (.bin .shr (.t 33) (.c (.int .u64 (.ofNat 32)))) [(33, x21)] h23 fun x25 h26 k27 =>
p_gen (.bin .mul (.t 36) (.t 37)) [(36, x0), (37, x9)] h26 fun x28 h29 k30 =>
p_add x22 x28 fun x31 =>
p_gen (.bin .mul (.t 40) (.t 41)) [(40, x3), (41, x9)] h29 fun x32 h33 k34 =>
p_add x32 x25 fun x35 =>
p_gen (.bin .shr (.t 45) (.c (.int .u64 (.ofNat 32)))) [(45, x31)] h33 fun x36 h37 k38 =>
p_add x35 x36 fun x39 =>
p_gen (.bin .mul (.t 48) (.t 49)) [(48, (nthV A 0)), (49, (nthV A 1))] h37 fun x40 h41 k42 =>
kr (.tuple [x39, x40]) h41) false
noncomputable def h157 : FBody := fun c D k A h kr kp => ifB (Nat.beq (lenV A) 2) (
asNil (
p_faddr 1 (nthV A 0) fun x0 =>
p_load1 x0 h fun x1 b2 =>
joinL (fun j3 =>
loopB k (fun r6 l7 h8 =>
c 160 [(nthV A 0), (nthV A 1)] h8 (fun x11 h12 =>
joinL (fun j13 => p_if x11 (
j13 [] h12) (j3 [] h12)) fun l14 h15 =>
asNil (
p_faddr 1 (nthV A 0) fun x16 =>
p_load1 x16 h15 fun x17 b18 =>
p_add x17 (vi 1) fun x19 =>
asNil (
p_faddr 1 (nthV A 0) fun x20 =>
p_store 1 x20 x19 h15 fun h21 b22 =>
r6 [] h21) (nthV A 0)) (nthV A 0)) kp) [] h) fun l4 h5 =>
asNil (
p_faddr 0 (nthV A 0) fun x23 =>
p_load1 x23 h5 fun x24 b25 =>
asNil (
p_faddr 1 (nthV A 0) fun x26 =>
p_load1 x26 h5 fun x27 b28 =>
ifB (okAll (.rd b28) h5 h5 [⟨3, (.rd b25), h5, h5⟩]) (
asStr (fun s29 => onBnd x27 (lenB s29) fun n30 => onBnd x1 n30 fun n31 => (fun (x32 : AV) => kr x32 h5) (.str (takeQ (dropC s29 n31) (Nat.sub n30 n31)))) x24) false) (nthV A 0)) (nthV A 0)) (nthV A 0)) false
noncomputable def h158 : FBody := fun c D k A h kr kp => ifB (Nat.beq (lenV A) 1) (
p_eq (nthV A 0) (.int .u8 (.ofNat 32)) fun x0 =>
joinV (fun j1 => p_no x0 (j1 (nthV A 0) h) (j1 undefA h)) fun x2 h3 =>
joinV (fun j4 => p_no x0 (p_eq x2 (.int .u8 (.ofNat 9)) fun x7 =>
j4 x7 h3) (j4 undefA h3)) fun x5 h6 =>
p_pick x0 vT x5 fun x8 =>
joinV (fun j9 => p_no x8 (j9 (nthV A 0) h6) (j9 undefA h6)) fun x10 h11 =>
joinV (fun j12 => p_no x8 (p_eq x10 (.int .u8 (.ofNat 10)) fun x15 =>
j12 x15 h11) (j12 undefA h11)) fun x13 h14 =>
p_pick x8 vT x13 fun x16 =>
joinV (fun j17 => p_no x16 (j17 (nthV A 0) h14) (j17 undefA h14)) fun x18 h19 =>
joinV (fun j20 => p_no x16 (p_eq x18 (.int .u8 (.ofNat 13)) fun x23 =>
j20 x23 h19) (j20 undefA h19)) fun x21 h22 =>
p_pick x16 vT x21 fun x24 =>
kr x24 h22) false
noncomputable def h159 : FBody := fun c D k A h kr kp => ifB (Nat.beq (lenV A) 1) (
p_bin .neq fiNeq (nthV A 0) (.int .u8 (.ofNat 10)) fun x0 =>
kr x0 h) false
noncomputable def h160 : FBody := fun c D k A h kr kp => ifB (Nat.beq (lenV A) 2) (
asNil (
p_faddr 1 (nthV A 0) fun x0 =>
p_load1 x0 h fun x1 b2 =>
asNil (
p_faddr 0 (nthV A 0) fun x3 =>
p_load1 x3 h fun x4 b5 =>
ifB (okAll (.rd b5) h h [⟨3, (.rd b2), h, h⟩]) (
p_lenS x4 fun x6 =>
p_bin .lss fiLss x1 x6 fun x7 =>
joinC (fun j8 => p_yes x7 (j8 (nthV A 1) h .free h) (j8 undefA h .free h)) fun x9 h10 k11 h12 =>
joinC (fun j13 => p_yes x7 (j13 (nthV A 0) h10 .free h10) (j13 undefA h10 .free h10)) fun x14 h15 k16 h17 =>
joinC (fun j18 => p_yes x7 (asNil (
j18 x14 h15 .free h15) x14) (j18 undefA h15 .free h15)) fun x19 h20 k21 h22 =>
joinC (fun j23 => p_yes x7 (p_faddr 0 x19 fun x28 =>
j23 x28 h20 .free h20) (j23 undefA h20 .free h20)) fun x24 h25 k26 h27 =>
joinC (fun j29 => p_yes x7 (p_load1 x24 h25 fun x34 b35 =>
j29 x34 h25 (.rd b35) h25) (j29 undefA h25 .free h25)) fun x30 h31 k32 h33 =>
joinC (fun j36 => p_yes x7 (j36 (nthV A 0) h31 .free h31) (j36 undefA h31 .free h31)) fun x37 h38 k39 h40 =>
joinC (fun j41 => p_yes x7 (asNil (
j41 x37 h38 .free h38) x37) (j41 undefA h38 .free h38)) fun x42 h43 k44 h45 =>
joinC (fun j46 => p_yes x7 (p_faddr 1 x42 fun x51 =>
j46 x51 h43 .free h43) (j46 undefA h43 .free h43)) fun x47 h48 k49 h50 =>
joinC (fun j52 => p_yes x7 (p_load1 x47 h48 fun x57 b58 =>
ifB (okAll (.rd b58) h48 h48 [⟨15, k32, h33, h31⟩]) (
j52 x57 h48 (.rd b58) h48) false) (j52 undefA h48 .free h48)) fun x53 h54 k55 h56 =>
joinC (fun j59 => p_yes x7 (p_idxs x30 x53 fun x64 =>
j59 x64 h54 .free h54) (j59 undefA h54 .free h54)) fun x60 h61 k62 h63 =>
joinC (fun j65 => p_yes x7 (p_fn x9 fun g74 a75 b76 => c g74 (appL a75 (appL [x60] b76)) h61 (fun x72 h73 =>
j65 x72 h73 .big h61) kp) (j65 undefA h61 .free h61)) fun x66 h67 k68 h69 =>
p_pick x7 x66 vF fun x77 =>
kr x77 h67) false) (nthV A 0)) (nthV A 0)) false
noncomputable def h161 : FBody := fun c D k A h kr kp => ifB (Nat.beq (lenV A) 1) (
p_bin .geq fiGeq (nthV A 0) (.int .u8 (.ofNat 97)) fun x0 =>
joinV (fun j1 => p_yes x0 (j1 (nthV A 0) h) (j1 undefA h)) fun x2 h3 =>
joinV (fun j4 => p_yes x0 (p_bin .leq fiLeq x2 (.int .u8 (.ofNat 122)) fun x7 =>
j4 x7 h3) (j4 undefA h3)) fun x5 h6 =>
p_pick x0 x5 vF fun x8 =>
joinV (fun j9 => p_no x8 (j9 (nthV A 0) h6) (j9 undefA h6)) fun x10 h11 =>
joinV (fun j12 => p_no x8 (p_bin .geq fiGeq x10 (.int .u8 (.ofNat 65)) fun x15 =>
j12 x15 h11) (j12 undefA h11)) fun x13 h14 =>
joinV (fun j16 => p_no x8 (j16 x13 h14) (j16 undefA h14)) fun x17 h18 =>
joinV (fun j19 => p_yes x17 (j19 (nthV A 0) h18) (j19 undefA h18)) fun x20 h21 =>
joinV (fun j22 => p_yes x17 (p_bin .leq fiLeq x20 (.int .u8 (.ofNat 90)) fun x25 =>
j22 x25 h21) (j22 undefA h21)) fun x23 h24 =>
joinV (fun j26 => p_no x8 (p_pick x17 x23 vF fun x29 =>
j26 x29 h24) (j26 undefA h24)) fun x27 h28 =>
p_pick x8 vT x27 fun x30 =>
joinV (fun j31 => p_no x30 (j31 (nthV A 0) h28) (j31 undefA h28)) fun x32 h33 =>
joinV (fun j34 => p_no x30 (p_eq x32 (.int .u8 (.ofNat 95)) fun x37 =>
j34 x37 h33) (j34 undefA h33)) fun x35 h36 =>
p_pick x30 vT x35 fun x38 =>
kr x38 h36) false
noncomputable def h162 : FBody := fun c D k A h kr kp => ifB (Nat.beq (lenV A) 1) (
(fun (x0 : AV) (h1 : AHeap) =>
asNil (
p_faddr 1 (nthV A 0) fun x2 =>
p_load1 x2 h1 fun x3 b4 =>
onFill [(0, 1, (vi 1)), (4, 1, x3)] [(vi 0), vS, (vi 0), (.int .u64 (.ofNat 0)), (vi 0)] fun l5 => (fun (x6 : AV) => (fun (x7 : AV) (h8 : AHeap) =>
p_store 5 x7 x6 h8 fun h9 b10 =>
c 157 [(nthV A 0), (.func (.func 182) [] [])] h9 (fun x13 h14 =>
p_faddr 1 x7 fun x15 =>
p_store 1 x15 x13 h14 fun h16 b17 =>
p_faddr 1 x7 fun x18 =>
p_load1 x18 h16 fun x19 b20 =>
p_lenS x19 fun x21 =>
p_bin .gtr fiGtr x21 (vi 24) fun x22 =>
joinL (fun j23 => p_if x22 (
p_load1 (.ptr 7 0) h16 fun x26 b27 =>
p_faddr 4 x7 fun x28 =>
p_load1 x28 h16 fun x29 b30 =>
c 126 [(nthV A 0), x26, x29] h16 (fun x33 h34 =>
j23 [] h34) kp) (j23 [] h16)) fun l24 h25 =>
p_faddr 1 x7 fun x35 =>
p_load1 x35 h25 fun x36 b37 =>
c 183 [x36] h25 (fun x40 h41 =>
joinL (fun j42 => p_if x40 (
p_faddr 0 x7 fun x45 =>
p_store 1 x45 (vi 2) h41 fun h46 b47 =>
j42 [] h46) (j42 [] h41)) fun l43 h44 =>
p_loadN 5 x7 h44 fun x48 b49 =>
p_store 5 x0 x48 h44 fun h50 b51 =>
p_loadN 5 x0 h50 fun x52 b53 => kr x52 h50) kp) kp) (.ptr h1.n (nat_lit 0)) (alQ h1 (.cells .own (nat_lit 0) [(vi 0), vS, (vi 0), (.int .u64 (.ofNat 0)), (vi 0)]))) (.agg l5)) (nthV A 0)) (.ptr h.n (nat_lit 0)) (alQ h (.cells .own (nat_lit 0) [(vi 0), vS, (vi 0), (.int .u64 (.ofNat 0)), (vi 0)]))) false
noncomputable def h163 : FBody := fun c D k A h kr kp => ifB (Nat.beq (lenV A) 1) (
p_bin .geq fiGeq (nthV A 0) (.int .u8 (.ofNat 48)) fun x0 =>
joinV (fun j1 => p_yes x0 (j1 (nthV A 0) h) (j1 undefA h)) fun x2 h3 =>
joinV (fun j4 => p_yes x0 (p_bin .leq fiLeq x2 (.int .u8 (.ofNat 57)) fun x7 =>
j4 x7 h3) (j4 undefA h3)) fun x5 h6 =>
p_pick x0 x5 vF fun x8 =>
kr x8 h6) false
noncomputable def h164 : FBody := fun c D k A h kr kp => ifB (Nat.beq (lenV A) 1) (
(fun (x0 : AV) (h1 : AHeap) =>
asNil (
p_faddr 1 (nthV A 0) fun x2 =>
p_load1 x2 h1 fun x3 b4 =>
onFill [(0, 1, (vi 3)), (4, 1, x3)] [(vi 0), vS, (vi 0), (.int .u64 (.ofNat 0)), (vi 0)] fun l5 => (fun (x6 : AV) => (fun (x7 : AV) (h8 : AHeap) =>
p_store 5 x7 x6 h8 fun h9 b10 =>
p_faddr 1 x7 fun x11 =>
p_store 1 x11 (.str [48]) h9 fun h12 b13 =>
asNil (
p_faddr 0 (nthV A 0) fun x14 =>
p_load1 x14 h12 fun x15 b16 =>
asNil (
p_faddr 1 (nthV A 0) fun x17 =>
p_load1 x17 h12 fun x18 b19 =>
ifB (okAll (.rd b19) h12 h12 [⟨3, (.rd b16), h12, h12⟩]) (
p_idxs x15 x18 fun x20 =>
p_eq x20 (.int .u8 (.ofNat 48)) fun x21 =>
joinL (fun j22 => p_if x21 (
asNil (
p_faddr 1 (nthV A 0) fun x25 =>
p_load1 x25 h12 fun x26 b27 =>
p_add x26 (vi 1) fun x28 =>
asNil (
p_faddr 1 (nthV A 0) fun x29 =>
p_store 1 x29 x28 h12 fun h30 b31 =>
j22 [] h30) (nthV A 0)) (nthV A 0)) (c 157 [(nthV A 0), (.func (.func 163) [] [])] h12 (fun x34 h35 =>
p_faddr 1 x7 fun x36 =>
p_store 1 x36 x34 h35 fun h37 b38 =>
j22 [] h37) kp)) fun l23 h24 =>
p_faddr 1 x7 fun x39 =>
p_load1 x39 h24 fun x40 b41 =>
p_lenS x40 fun x42 =>
joinL (fun j43 =>
loopB k (fun r46 l47 h48 =>
p_bin .lss fiLss (nthV l47 1) x42 fun x49 =>
joinL (fun j50 => p_if x49 (
j50 [] h48) (j43 [(nthV l47 0)] h48)) fun l51 h52 =>
joinL (fun j53 =>
p_faddr 1 x7 fun x56 =>
p_load1 x56 h52 fun x57 b58 =>
p_idxs x57 (nthV l47 1) fun x59 =>
p_bin .sub fiSub x59 (.int .u8 (.ofNat 48)) fun x60 =>
p_cvi .i64 x60 fun x61 =>
joinV (fun j62 => p_no (nthV l47 0) (p_faddr 2 x7 fun x65 =>
j62 x65 h52) (j62 undefA h52)) fun x63 h64 =>
joinV (fun j66 => p_no (nthV l47 0) (p_load1 x63 h64 fun x69 b70 =>
j66 x69 h64) (j66 undefA h64)) fun x67 h68 =>
joinV (fun j71 => p_no (nthV l47 0) (j71 x61 h68) (j71 undefA h68)) fun x72 h73 =>
joinV (fun j74 => p_no (nthV l47 0) (p_bin .sub fiSub (vi 9223372036854775807) x72 fun x77 =>
j74 x77 h73) (j74 undefA h73)) fun x75 h76 =>
joinV (fun j78 => p_no (nthV l47 0) (p_gen (.bin .quo (.t 50) (.c (vi 10))) [(50, x75)] h76 fun x81 h82 k83 =>
j78 x81 h82) (j78 undefA h76)) fun x79 h80 =>
joinV (fun j84 => p_no (nthV l47 0) (p_bin .gtr fiGtr x67 x79 fun x87 =>
j84 x87 h80) (j84 undefA h80)) fun x85 h86 =>
p_pick (nthV l47 0) vT x85 fun x88 =>
p_faddr 2 x7 fun x89 =>
p_load1 x89 h86 fun x90 b91 =>
p_gen (.bin .mul (.c (vi 10)) (.t 55)) [(55, x90)] h86 fun x92 h93 k94 =>
p_add x92 x61 fun x95 =>
p_faddr 2 x7 fun x96 =>
p_store 1 x96 x95 h93 fun h97 b98 =>
j53 [x88] h97) fun l54 h55 =>
p_add (nthV l47 1) (vi 1) fun x99 =>
r46 [(nthV l54 0), x99] h55) [vF, (vi 0)] h24) fun l44 h45 =>
joinL (fun j100 => p_if (nthV l44 0) (
p_load1 (.ptr 2 0) h45 fun x103 b104 =>
p_faddr 4 x7 fun x105 =>
p_load1 x105 h45 fun x106 b107 =>
c 126 [(nthV A 0), x103, x106] h45 (fun x110 h111 =>
j100 [] h111) kp) (j100 [] h45)) fun l101 h102 =>
c 184 [(nthV A 0)] h102 (fun x114 h115 =>
p_loadN 5 x7 h115 fun x116 b117 =>
p_store 5 x0 x116 h115 fun h118 b119 =>
p_loadN 5 x0 h118 fun x120 b121 => kr x120 h118) kp) false) (nthV A 0)) (nthV A 0)) (.ptr h1.n (nat_lit 0)) (alQ h1 (.cells .own (nat_lit 0) [(vi 0), vS, (vi 0), (.int .u64 (.ofNat 0)), (vi 0)]))) (.agg l5)) (nthV A 0)) (.ptr h.n (nat_lit 0)) (alQ h (.cells .own (nat_lit 0) [(vi 0), vS, (vi 0), (.int .u64 (.ofNat 0)), (vi 0)]))) false
noncomputable def h165 : FBody := fun c D k A h kr kp => ifB (Nat.beq (lenV A) 1) (
(fun (x0 : AV) (h1 : AHeap) =>
asNil (
p_faddr 1 (nthV A 0) fun x2 =>
p_load1 x2 h1 fun x3 b4 =>
onFill [(0, 1, (vi 4)), (4, 1, x3)] [(vi 0), vS, (vi 0), (.int .u64 (.ofNat 0)), (vi 0)] fun l5 => (fun (x6 : AV) => (fun (x7 : AV) (h8 : AHeap) =>
p_store 5 x7 x6 h8 fun h9 b10 =>
asNil (
p_faddr 1 (nthV A 0) fun x11 =>
p_load1 x11 h9 fun x12 b13 =>
p_add x12 (vi 1) fun x14 =>
asNil (
p_faddr 1 (nthV A 0) fun x15 =>
p_store 1 x15 x14 h9 fun h16 b17 =>
joinL (fun j18 =>
loopB k (fun r21 l22 h23 =>
p_bin .lss fiLss (nthV l22 0) (vi 16) fun x24 =>
joinL (fun j25 => p_if x24 (
j25 [] h23) (j18 [] h23)) fun l26 h27 =>
joinL (fun j28 =>
asNil (
p_faddr 1 (nthV A 0) fun x31 =>
p_load1 x31 h27 fun x32 b33 =>
asNil (
p_faddr 0 (nthV A 0) fun x34 =>
p_load1 x34 h27 fun x35 b36 =>
ifB (okAll (.rd b36) h27 h27 [⟨3, (.rd b33), h27, h27⟩]) (
p_lenS x35 fun x37 =>
p_bin .geq fiGeq x32 x37 fun x38 =>
joinC (fun j39 => p_no x38 (j39 (nthV A 0) h27 .free h27) (j39 undefA h27 .free h27)) fun x40 h41 k42 h43 =>
joinC (fun j44 => p_no x38 (asNil (
j44 x40 h41 .free h41) x40) (j44 undefA h41 .free h41)) fun x45 h46 k47 h48 =>
joinC (fun j49 => p_no x38 (p_faddr 0 x45 fun x54 =>
j49 x54 h46 .free h46) (j49 undefA h46 .free h46)) fun x50 h51 k52 h53 =>
joinC (fun j55 => p_no x38 (p_load1 x50 h51 fun x60 b61 =>
j55 x60 h51 (.rd b61) h51) (j55 undefA h51 .free h51)) fun x56 h57 k58 h59 =>
joinC (fun j62 => p_no x38 (j62 (nthV A 0) h57 .free h57) (j62 undefA h57 .free h57)) fun x63 h64 k65 h66 =>
joinC (fun j67 => p_no x38 (asNil (
j67 x63 h64 .free h64) x63) (j67 undefA h64 .free h64)) fun x68 h69 k70 h71 =>
joinC (fun j72 => p_no x38 (p_faddr 1 x68 fun x77 =>
j72 x77 h69 .free h69) (j72 undefA h69 .free h69)) fun x73 h74 k75 h76 =>
joinC (fun j78 => p_no x38 (p_load1 x73 h74 fun x83 b84 =>
ifB (okAll (.rd b84) h74 h74 [⟨14, k58, h59, h57⟩]) (
j78 x83 h74 (.rd b84) h74) false) (j78 undefA h74 .free h74)) fun x79 h80 k81 h82 =>
joinC (fun j85 => p_no x38 (p_idxs x56 x79 fun x90 =>
j85 x90 h80 .free h80) (j85 undefA h80 .free h80)) fun x86 h87 k88 h89 =>
joinC (fun j91 => p_no x38 (c 185 [(.str [48, 49, 50, 51, 52, 53, 54, 55, 56, 57, 97, 98, 99, 100, 101, 102]), x86] h87 (fun x98 h99 =>
j91 x98 h99 .big h87) kp) (j91 undefA h87 .free h87)) fun x92 h93 k94 h95 =>
joinC (fun j100 => p_no x38 (p_bin .lss fiLss x92 (vi 0) fun x105 =>
j100 x105 h93 .free h93) (j100 undefA h93 .free h93)) fun x101 h102 k103 h104 =>
p_pick x38 vT x101 fun x106 =>
joinL (fun j107 => p_if x106 (
p_load1 (.ptr 3 0) h102 fun x110 b111 =>
p_faddr 4 x7 fun x112 =>
p_load1 x112 h102 fun x113 b114 =>
c 126 [(nthV A 0), x110, x113] h102 (fun x117 h118 =>
j107 [] h118) kp) (j107 [] h102)) fun l108 h109 =>
p_faddr 3 x7 fun x119 =>
p_load1 x119 h109 fun x120 b121 =>
p_gen (.bin .shl (.t 47) (.c (.int .u64 (.ofNat 4)))) [(47, x120)] h109 fun x122 h123 k124 =>
asNil (
p_faddr 0 (nthV A 0) fun x125 =>
p_load1 x125 h123 fun x126 b127 =>
ifB (okAll (.rd b127) h123 h123 [⟨1, (.rd b121), h109, h109⟩]) (
asNil (
p_faddr 1 (nthV A 0) fun x128 =>
p_load1 x128 h123 fun x129 b130 =>
ifB (okAll (.rd b130) h123 h123 [⟨6, (.rd b127), h123, h123⟩, ⟨1, (.rd b121), h109, h109⟩]) (
p_idxs x126 x129 fun x131 =>
c 185 [(.str [48, 49, 50, 51, 52, 53, 54, 55, 56, 57, 97, 98, 99, 100, 101, 102]), x131] h123 (fun x134 h135 =>
ifB (okAll .big h123 h135 [⟨1, (.rd b121), h109, h109⟩]) (
p_cvi .u64 x134 fun x136 =>
p_gen (.bin .or (.t 48) (.t 59)) [(48, x122), (59, x136)] h135 fun x137 h138 k139 =>
p_faddr 3 x7 fun x140 =>
p_store 1 x140 x137 h138 fun h141 b142 =>
asNil (
p_faddr 1 (nthV A 0) fun x143 =>
p_load1 x143 h141 fun x144 b145 =>
p_add x144 (vi 1) fun x146 =>
asNil (
p_faddr 1 (nthV A 0) fun x147 =>
p_store 1 x147 x146 h141 fun h148 b149 =>
j28 [] h148) (nthV A 0)) (nthV A 0)) false) (fun p132 h133 => ifB (okAll .big h123 h133 [⟨1, (.rd b121), h109, h109⟩]) (
kp p132 h133) false)) false) (nthV A 0)) false) (nthV A 0)) false) (nthV A 0)) (nthV A 0)) fun l29 h30 =>
p_add (nthV l22 0) (vi 1) fun x150 =>
r21 [x150] h30) [(vi 0)] h16) fun l19 h20 =>
c 184 [(nthV A 0)] h20 (fun x153 h154 =>
asNil (
p_faddr 0 (nthV A 0) fun x155 =>
p_load1 x155 h154 fun x156 b157 =>
p_faddr 4 x7 fun x158 =>
p_load1 x158 h154 fun x159 b160 =>
ifB (okAll (.rd b160) h154 h154 [⟨3, (.rd b157), h154, h154⟩]) (
asNil (
p_faddr 1 (nthV A 0) fun x161 =>
p_load1 x161 h154 fun x162 b163 =>
ifB (okAll (.rd b163) h154 h154 [⟨5, (.rd b160), h154, h154⟩, ⟨3, (.rd b157), h154, h154⟩]) (
asStr (fun s164 => onBnd x162 (lenB s164) fun n165 => onBnd x159 n165 fun n166 => (fun (x167 : AV) => p_faddr 1 x7 fun x168 =>
p_store 1 x168 x167 h154 fun h169 b170 =>
p_loadN 5 x7 h169 fun x171 b172 =>
p_store 5 x0 x171 h169 fun h173 b174 =>
p_loadN 5 x0 h173 fun x175 b176 => kr x175 h173) (.str (takeQ (dropC s164 n166) (Nat.sub n165 n166)))) x156) false) (nthV A 0)) false) (nthV A 0)) kp) (nthV A 0)) (nthV A 0)) (.ptr h1.n (nat_lit 0)) (alQ h1 (.cells .own (nat_lit 0) [(vi 0), vS, (vi 0), (.int .u64 (.ofNat 0)), (vi 0)]))) (.agg l5)) (nthV A 0)) (.ptr h.n (nat_lit 0)) (alQ h (.cells .own (nat_lit 0) [(vi 0), vS, (vi 0), (.int .u64 (.ofNat 0)), (vi 0)]))) false
noncomputable def h166 : FBody := fun c D k A h kr kp => ifB (Nat.beq (lenV A) 1) (
(fun (x0 : AV) (h1 : AHeap) =>
onFill [(0, 1, (.str [58, 61])), (1, 1, (.str [61, 61])), (2, 1, (.str [33, 61])), (3, 1, (.str [60, 61])), (4, 1, (.str [62, 61])), (5, 1, (.str [38, 38])), (6, 1, (.str [124, 124]))] [vS, vS, vS, vS, vS, vS, vS] fun l2 => (fun (x3 : AV) => joinL (fun j4 =>
loopB k (fun r7 l8 h9 =>
p_bin .lss fiLss (nthV l8 0) (vi 7) fun x10 =>
joinL (fun j11 => p_if x10 (
j11 [] h9) (j4 [] h9)) fun l12 h13 =>
joinL (fun j14 =>
p_idxa1 7 1 x3 (nthV l8 0) fun x17 =>
asNil (
p_faddr 0 (nthV A 0) fun x18 =>
p_load1 x18 h13 fun x19 b20 =>
asNil (
p_faddr 1 (nthV A 0) fun x21 =>
p_load1 x21 h13 fun x22 b23 =>
ifB (okAll (.rd b23) h13 h13 [⟨3, (.rd b20), h13, h13⟩]) (
asStr (fun s24 => onBnd x22 (lenB s24) fun n25 => (fun (x26 : AV) => c 148 [x26, x17] h13 (fun x29 h30 =>
p_if x29 (asNil (
p_faddr 1 (nthV A 0) fun x31 =>
p_load1 x31 h30 fun x32 b33 =>
p_add x32 (vi 2) fun x34 =>
asNil (
p_faddr 1 (nthV A 0) fun x35 =>
p_store 1 x35 x34 h30 fun h36 b37 =>
asNil (
p_faddr 1 (nthV A 0) fun x38 =>
p_load1 x38 h36 fun x39 b40 =>
p_bin .sub fiSub x39 (vi 2) fun x41 =>
onFill [(0, 1, (vi 5)), (1, 1, x17), (4, 1, x41)] [(vi 0), vS, (vi 0), (.int .u64 (.ofNat 0)), (vi 0)] fun l42 => (fun (x43 : AV) => p_store 5 x0 x43 h36 fun h44 b45 =>
p_loadN 5 x0 h44 fun x46 b47 => kr x46 h44) (.agg l42)) (nthV A 0)) (nthV A 0)) (nthV A 0)) (j14 [] h30)) kp) (.str (dropC s24 n25))) x19) false) (nthV A 0)) (nthV A 0)) fun l15 h16 =>
p_add (nthV l8 0) (vi 1) fun x48 =>
r7 [x48] h16) [(vi 0)] h1) fun l5 h6 =>
asNil (
p_faddr 0 (nthV A 0) fun x49 =>
p_load1 x49 h6 fun x50 b51 =>
asNil (
p_faddr 1 (nthV A 0) fun x52 =>
p_load1 x52 h6 fun x53 b54 =>
ifB (okAll (.rd b54) h6 h6 [⟨3, (.rd b51), h6, h6⟩]) (
p_idxs x50 x53 fun x55 =>
c 185 [(.str [43, 45, 42, 47, 37, 60, 62, 61, 33, 40, 41, 123, 125, 91, 93, 44, 59]), x55] h6 (fun x58 h59 =>
p_bin .lss fiLss x58 (vi 0) fun x60 =>
joinL (fun j61 => p_if x60 (
p_load1 (.ptr 3 0) h59 fun x64 b65 =>
asNil (
p_faddr 1 (nthV A 0) fun x66 =>
p_load1 x66 h59 fun x67 b68 =>
ifB (okAll (.rd b68) h59 h59 [⟨1, (.rd b65), h59, h59⟩]) (
c 126 [(nthV A 0), x64, x67] h59 (fun x71 h72 =>
j61 [] h72) kp) false) (nthV A 0)) (j61 [] h59)) fun l62 h63 =>
asNil (
p_faddr 1 (nthV A 0) fun x73 =>
p_load1 x73 h63 fun x74 b75 =>
p_add x74 (vi 1) fun x76 =>
asNil (
p_faddr 1 (nthV A 0) fun x77 =>
p_store 1 x77 x76 h63 fun h78 b79 =>
asNil (
p_faddr 0 (nthV A 0) fun x80 =>
p_load1 x80 h78 fun x81 b82 =>
asNil (
p_faddr 1 (nthV A 0) fun x83 =>
p_load1 x83 h78 fun x84 b85 =>
ifB (okAll (.rd b85) h78 h78 [⟨3, (.rd b82), h78, h78⟩]) (
p_bin .sub fiSub x84 (vi 1) fun x86 =>
asNil (
p_faddr 1 (nthV A 0) fun x87 =>
p_load1 x87 h78 fun x88 b89 =>
ifB (okAll (.rd b89) h78 h78 [⟨7, (.rd b85), h78, h78⟩, ⟨3, (.rd b82), h78, h78⟩]) (
asStr (fun s90 => onBnd x88 (lenB s90) fun n91 => onBnd x86 n91 fun n92 => (fun (x93 : AV) => asNil (
p_faddr 1 (nthV A 0) fun x94 =>
p_load1 x94 h78 fun x95 b96 =>
ifB (okAll (.rd b96) h78 h78 [⟨13, .free, h78, h78⟩, ⟨12, (.rd b89), h78, h78⟩, ⟨7, (.rd b85), h78, h78⟩, ⟨3, (.rd b82), h78, h78⟩]) (
p_bin .sub fiSub x95 (vi 1) fun x97 =>
onFill [(0, 1, (vi 5)), (1, 1, x93), (4, 1, x97)] [(vi 0), vS, (vi 0), (.int .u64 (.ofNat 0)), (vi 0)] fun l98 => (fun (x99 : AV) => p_store 5 x0 x99 h78 fun h100 b101 =>
p_loadN 5 x0 h100 fun x102 b103 => kr x102 h100) (.agg l98)) false) (nthV A 0)) (.str (takeQ (dropC s90 n92) (Nat.sub n91 n92)))) x81) false) (nthV A 0)) false) (nthV A 0)) (nthV A 0)) (nthV A 0)) (nthV A 0)) kp) false) (nthV A 0)) (nthV A 0)) (.agg l2)) (.ptr h.n (nat_lit 0)) (alQ h (.cells .own (nat_lit 0) [(vi 0), vS, (vi 0), (.int .u64 (.ofNat 0)), (vi 0)]))) false
noncomputable def h167 : FBody := fun c D k A h kr kp => ifB (Nat.beq (lenV A) 1) (
(fun (x0 : AV) (h1 : AHeap) =>
c 49 [(nthV A 0)] h1 (fun x4 h5 =>
(fun (x6 : AV) (h7 : AHeap) =>
p_store 5 x6 x4 h7 fun h8 b9 =>
p_faddr 0 x6 fun x10 =>
p_load1 x10 h8 fun x11 b12 =>
p_eq x11 (vi 1) fun x13 =>
joinL (fun j14 => p_if x13 (
c 186 [(nthV A 0)] h8 (fun x19 h20 =>
p_store 9 x0 x19 h20 fun h21 b22 =>
p_loadN 9 x0 h21 fun x23 b24 => kr x23 h21) kp) (j14 [] h8)) fun l15 h16 =>
p_faddr 0 x6 fun x25 =>
p_load1 x25 h16 fun x26 b27 =>
p_bin .neq fiNeq x26 (vi 2) fun x28 =>
joinL (fun j29 => p_if x28 (
c 83 [(nthV A 0)] h16 (fun x34 h35 =>
j29 [] h35) kp) (j29 [] h16)) fun l30 h31 =>
p_faddr 1 x6 fun x36 =>
p_load1 x36 h31 fun x37 b38 =>
joinL (fun j39 =>
p_eq x37 (.str [103, 111]) fun x42 =>
p_if x42 (c 90 [(nthV A 0), (.str [103, 111])] h31 (fun x45 h46 =>
(fun (x47 : AV) (h48 : AHeap) =>
p_faddr 4 x6 fun x49 =>
p_load1 x49 h48 fun x50 b51 =>
ifB (okAll (.rd b51) h48 h48 [⟨6, .new, h46, h48⟩]) (
c 85 [(nthV A 0), (vi 1)] h48 (fun x54 h55 =>
ifB (okAll .big h48 h55 [⟨1, (.rd b51), h48, h48⟩, ⟨6, .new, h46, h48⟩]) (
p_fld x54 1 fun x56 =>
onFill [(0, 1, (vi 12)), (1, 1, x50), (2, 1, x56)] [(vi 0), (vi 0), vS, (vi 0), (vi 0), (vi 0), (vi 0), (.int .u64 (.ofNat 0)), .nilSlice] fun l57 => (fun (x58 : AV) => ifB (okAll .free h55 h55 [⟨6, .new, h46, h48⟩]) (
p_store 9 x47 x58 h55 fun h59 b60 =>
c 187 [(nthV A 0)] h59 (fun x63 h64 =>
p_faddr 8 x47 fun x65 =>
p_store 1 x65 x63 h64 fun h66 b67 =>
p_loadN 9 x47 h66 fun x68 b69 =>
p_store 9 x0 x68 h66 fun h70 b71 =>
p_loadN 9 x0 h70 fun x72 b73 => kr x72 h70) kp) false) (.agg l57)) false) (fun p52 h53 => ifB (okAll .big h48 h53 [⟨1, (.rd b51), h48, h48⟩, ⟨6, .new, h46, h48⟩]) (
kp p52 h53) false)) false) (.ptr h46.n (nat_lit 0)) (alQ h46 (.cells .own (nat_lit 0) [(vi 0), (vi 0), vS, (vi 0), (vi 0), (vi 0), (vi 0), (.int .u64 (.ofNat 0)), .nilSlice]))) kp) (p_eq x37 (.str [108, 111, 99, 107]) fun x74 =>
p_if x74 (c 188 [(nthV A 0), (vi 14), (vi 0)] h31 (fun x77 h78 =>
p_store 9 x0 x77 h78 fun h79 b80 =>
p_loadN 9 x0 h79 fun x81 b82 => kr x81 h79) kp) (p_eq x37 (.str [117, 110, 108, 111, 99, 107]) fun x83 =>
p_if x83 (c 188 [(nthV A 0), (vi 15), (vi 0)] h31 (fun x86 h87 =>
p_store 9 x0 x86 h87 fun h88 b89 =>
p_loadN 9 x0 h88 fun x90 b91 => kr x90 h88) kp) (p_eq x37 (.str [115, 101, 110, 100]) fun x92 =>
p_if x92 (c 188 [(nthV A 0), (vi 16), (vi 1)] h31 (fun x95 h96 =>
p_store 9 x0 x95 h96 fun h97 b98 =>
p_loadN 9 x0 h97 fun x99 b100 => kr x99 h97) kp) (p_eq x37 (.str [114, 101, 99, 118]) fun x101 =>
p_if x101 (c 188 [(nthV A 0), (vi 17), (vi 2)] h31 (fun x104 h105 =>
p_store 9 x0 x104 h105 fun h106 b107 =>
p_loadN 9 x0 h106 fun x108 b109 => kr x108 h106) kp) (p_eq x37 (.str [97, 100, 100]) fun x110 =>
p_if x110 (c 188 [(nthV A 0), (vi 18), (vi 1)] h31 (fun x113 h114 =>
p_store 9 x0 x113 h114 fun h115 b116 =>
p_loadN 9 x0 h115 fun x117 b118 => kr x117 h115) kp) (p_eq x37 (.str [112, 117, 116]) fun x119 =>
p_if x119 (c 188 [(nthV A 0), (vi 19), (vi 1)] h31 (fun x122 h123 =>
p_store 9 x0 x122 h123 fun h124 b125 =>
p_loadN 9 x0 h124 fun x126 b127 => kr x126 h124) kp) (p_eq x37 (.str [103, 101, 116]) fun x128 =>
p_if x128 (c 188 [(nthV A 0), (vi 20), (vi 2)] h31 (fun x131 h132 =>
p_store 9 x0 x131 h132 fun h133 b134 =>
p_loadN 9 x0 h133 fun x135 b136 => kr x135 h133) kp) (p_eq x37 (.str [114, 101, 116, 117, 114, 110]) fun x137 =>
p_if x137 (c 90 [(nthV A 0), (.str [114, 101, 116, 117, 114, 110])] h31 (fun x140 h141 =>
p_faddr 4 x6 fun x142 =>
p_load1 x142 h141 fun x143 b144 =>
onFill [(0, 1, (vi 23)), (1, 1, x143)] [(vi 0), (vi 0), vS, (vi 0), (vi 0), (vi 0), (vi 0), (.int .u64 (.ofNat 0)), .nilSlice] fun l145 => (fun (x146 : AV) => p_store 9 x0 x146 h141 fun h147 b148 =>
p_loadN 9 x0 h147 fun x149 b150 => kr x149 h147) (.agg l145)) kp) (j39 [] h31)))))))))) fun l40 h41 =>
c 90 [(nthV A 0), (.str [102, 97, 105, 108])] h41 (fun x153 h154 =>
p_faddr 4 x6 fun x155 =>
p_load1 x155 h154 fun x156 b157 =>
c 96 [(nthV A 0)] h154 (fun x160 h161 =>
ifB (okAll .big h154 h161 [⟨1, (.rd b157), h154, h154⟩]) (
onFill [(0, 9, x160)] [(vi 0), (vi 0), vS, (vi 0), (vi 0), (vi 0), (vi 0), (.int .u64 (.ofNat 0)), .nilSlice] fun l162 => ifB (flatsQ l162) ((fun (x163 : AV) (h164 : AHeap) =>
ifB (okAll .new h161 h164 [⟨1, (.rd b157), h154, h154⟩]) (
onFill [(0, 1, (vi 24)), (1, 1, x156), (8, 1, x163)] [(vi 0), (vi 0), vS, (vi 0), (vi 0), (vi 0), (vi 0), (.int .u64 (.ofNat 0)), .nilSlice] fun l165 => (fun (x166 : AV) => p_store 9 x0 x166 h164 fun h167 b168 =>
p_loadN 9 x0 h167 fun x169 b170 => kr x169 h167) (.agg l165)) false) (.slice h161.n (nat_lit 0) 1 1 true) (alQ h161 (.cells .own 9 l162))) false) false) (fun p158 h159 => ifB (okAll .big h154 h159 [⟨1, (.rd b157), h154, h154⟩]) (
kp p158 h159) false)) kp) (.ptr h5.n (nat_lit 0)) (alQ h5 (.cells .own (nat_lit 0) [(vi 0), vS, (vi 0), (.int .u64 (.ofNat 0)), (vi 0)]))) kp) (.ptr h.n (nat_lit 0)) (alQ h (.cells .own (nat_lit 0) [(vi 0), (vi 0), vS, (vi 0), (vi 0), (vi 0), (vi 0), (.int .u64 (.ofNat 0)), .nilSlice]))) false
noncomputable def h170 : FBody := fun c D k A h kr kp => ifB (Nat.beq (lenV A) 1) (
(fun (x0 : AV) (h1 : AHeap) =>
(fun (x2 : AV) => onFill [(0, 1, (.str [61, 61])), (1, 1, (.str [33, 61])), (2, 1, (.str [60])), (3, 1, (.str [60, 61])), (4, 1, (.str [62])), (5, 1, (.str [62, 61]))] [vS, vS, vS, vS, vS, vS] fun l3 => ifB (flatsQ l3) ((fun (x4 : AV) (h5 : AHeap) =>
c 136 [(nthV A 0), x2, vF, x4] h5 (fun x8 h9 =>
p_store 9 x0 x8 h9 fun h10 b11 =>
p_loadN 9 x0 h10 fun x12 b13 => kr x12 h10) kp) (.slice h1.n (nat_lit 0) 6 6 true) (alQ h1 (.cells .own 1 l3))) false) (.func (.func 189) [(nthV A 0)] [])) (.ptr h.n (nat_lit 0)) (alQ h (.cells .own (nat_lit 0) [(vi 0), (vi 0), vS, (vi 0), (vi 0), (vi 0), (vi 0), (.int .u64 (.ofNat 0)), .nilSlice]))) false
noncomputable def h171 : FBody := fun c D k A h kr kp => ifB (Nat.beq (lenV A) 2) (
p_box (nthV A 0) h fun x0 h1 =>
p_box (nthV A 1) h1 fun x2 h3 =>
p_faddr 0 x2 fun x4 =>
p_load1 x4 h3 fun x5 b6 =>
joinL (fun j7 =>
p_eq x5 (vi 10) fun x10 =>
joinL (fun j11 => p_if x10 (
j11 [x10] h3) (p_eq x5 (vi 22) fun x14 =>
j11 [x14] h3)) fun l12 h13 =>
p_if (nthV l12 0) (j7 [(vi 2)] h13) (p_eq x5 (vi 21) fun x15 =>
p_if x15 (p_faddr 8 x2 fun x16 =>
p_load1 x16 h13 fun x17 b18 =>
p_lenL x17 fun x19 =>
p_eq x19 (vi 3) fun x20 =>
p_if x20 (j7 [(vi 3)] h13) (j7 [(vi 2)] h13)) (p_eq x5 (vi 14) fun x21 =>
joinL (fun j22 => p_if x21 (
j22 [x21] h13) (p_eq x5 (vi 15) fun x25 =>
p_if x25 (j22 [x25] h13) (p_eq x5 (vi 23) fun x26 =>
j22 [x26] h13))) fun l23 h24 =>
p_if (nthV l23 0) (j7 [(vi 0)] h24) (p_eq x5 (vi 12) fun x27 =>
joinL (fun j28 => p_if x27 (
j28 [x27] h24) (p_eq x5 (vi 13) fun x31 =>
j28 [x31] h24)) fun l29 h30 =>
p_if (nthV l29 0) (p_faddr 8 x2 fun x32 =>
p_load1 x32 h30 fun x33 b34 =>
p_lenL x33 fun x35 =>
j7 [x35] h30) (p_eq x5 (vi 11) fun x36 =>
joinL (fun j37 => p_if x36 (
j37 [x36] h30) (p_eq x5 (vi 16) fun x40 =>
p_if x40 (j37 [x40] h30) (p_eq x5 (vi 17) fun x41 =>
p_if x41 (j37 [x41] h30) (p_eq x5 (vi 18) fun x42 =>
p_if x42 (j37 [x42] h30) (p_eq x5 (vi 19) fun x43 =>
p_if x43 (j37 [x43] h30) (p_eq x5 (vi 20) fun x44 =>
p_if x44 (j37 [x44] h30) (p_eq x5 (vi 24) fun x45 =>
j37 [x45] h30))))))) fun l38 h39 =>
p_if (nthV l38 0) (j7 [(vi 1)] h39) (p_loadN 0 x0 h39 fun x46 b47 =>
c 98 [x46, vF] h39 (fun x50 h51 =>
j7 [(vi 1)] h51) kp)))))) fun l8 h9 =>
p_loadN 0 x0 h9 fun x52 b53 =>
p_faddr 8 x2 fun x54 =>
p_load1 x54 h9 fun x55 b56 =>
p_lenL x55 fun x57 =>
p_eq x57 (nthV l8 0) fun x58 =>
c 98 [x52, x58] h9 (fun x61 h62 =>
onFill [] [(vi 0), (vi 0), vS, (vi 0), (vi 0), (vi 0), (vi 0), (.int .u64 (.ofNat 0)), .nilSlice] fun l63 => (fun (x64 : AV) => (fun (x65 : AV) (h66 : AHeap) =>
p_store 9 x65 x64 h66 fun h67 b68 =>
p_faddr 0 x2 fun x69 =>
p_load1 x69 h67 fun x70 b71 =>
joinL (fun j72 =>
p_eq x70 (vi 10) fun x75 =>
joinL (fun j76 => p_if x75 (
j76 [x75] h67) (p_eq x70 (vi 21) fun x79 =>
p_if x79 (j76 [x79] h67) (p_eq x70 (vi 22) fun x80 =>
p_if x80 (j76 [x80] h67) (p_eq x70 (vi 23) fun x81 =>
p_if x81 (j76 [x81] h67) (p_eq x70 (vi 24) fun x82 =>
j76 [x82] h67))))) fun l77 h78 =>
p_if (nthV l77 0) (j72 [] h78) (p_loadN 0 x0 h78 fun x83 b84 =>
p_faddr 2 x2 fun x85 =>
p_load1 x85 h78 fun x86 b87 =>
c 108 [x83, x86] h78 (fun x90 h91 =>
p_faddr 2 x2 fun x92 =>
p_load1 x92 h91 fun x93 b94 =>
p_faddr 2 x65 fun x95 =>
p_store 1 x95 x93 h91 fun h96 b97 =>
j72 [] h96) kp)) fun l73 h74 =>
p_loadN 0 x0 h74 fun x98 b99 =>
p_loadN 9 x2 h74 fun x100 b101 =>
p_loadN 9 x65 h74 fun x102 b103 =>
c 99 [x98, x100, x102] h74 (fun x106 h107 =>
p_faddr 8 x2 fun x108 =>
p_load1 x108 h107 fun x109 b110 =>
p_lenL x109 fun x111 =>
loopB k (fun r112 l113 h114 =>
p_bin .lss fiLss (nthV l113 0) x111 fun x115 =>
joinL (fun j116 => p_if x115 (
j116 [] h114) (kr undefA h114)) fun l117 h118 =>
joinL (fun j119 =>
p_iaddr 9 x109 (nthV l113 0) fun x122 =>
p_loadN 9 x122 h118 fun x123 b124 =>
(fun (x125 : AV) (h126 : AHeap) =>
p_store 9 x125 x123 h126 fun h127 b128 =>
p_faddr 0 x2 fun x129 =>
p_load1 x129 h127 fun x130 b131 =>
p_eq x130 (vi 17) fun x132 =>
joinL (fun j133 => p_if x132 (
j133 [x132] h127) (p_faddr 0 x2 fun x136 =>
p_load1 x136 h127 fun x137 b138 =>
p_eq x137 (vi 20) fun x139 =>
p_if x139 (j133 [x139] h127) (p_faddr 0 x2 fun x140 =>
p_load1 x140 h127 fun x141 b142 =>
p_eq x141 (vi 10) fun x143 =>
joinV (fun j144 => p_yes x143 (j144 (nthV l113 0) h127) (j144 undefA h127)) fun x145 h146 =>
joinV (fun j147 => p_yes x143 (p_eq x145 (vi 0) fun x150 =>
j147 x150 h146) (j147 undefA h146)) fun x148 h149 =>
p_pick x143 x148 vF fun x151 =>
j133 [x151] h149))) fun l134 h135 =>
p_if (nthV l134 0) (p_loadN 0 x0 h135 fun x152 b153 =>
p_loadN 9 x125 h135 fun x154 b155 =>
c 190 [x152, x154] h135 (fun x158 h159 =>
j119 [] h159) kp) (p_bin .gtr fiGtr (nthV l113 0) (vi 0) fun x160 =>
joinV (fun j161 => p_yes x160 (p_faddr 0 x2 fun x164 =>
j161 x164 h135) (j161 undefA h135)) fun x162 h163 =>
joinV (fun j165 => p_yes x160 (p_load1 x162 h163 fun x168 b169 =>
j165 x168 h163) (j165 undefA h163)) fun x166 h167 =>
joinV (fun j170 => p_yes x160 (p_eq x166 (vi 21) fun x173 =>
j170 x173 h167) (j170 undefA h167)) fun x171 h172 =>
joinV (fun j174 => p_yes x160 (j174 x171 h172) (j174 undefA h172)) fun x175 h176 =>
joinV (fun j177 => p_no x175 (p_faddr 0 x2 fun x180 =>
j177 x180 h176) (j177 undefA h176)) fun x178 h179 =>
joinV (fun j181 => p_no x175 (p_load1 x178 h179 fun x184 b185 =>
j181 x184 h179) (j181 undefA h179)) fun x182 h183 =>
joinV (fun j186 => p_no x175 (p_eq x182 (vi 22) fun x189 =>
j186 x189 h183) (j186 undefA h183)) fun x187 h188 =>
joinV (fun j190 => p_yes x160 (p_pick x175 vT x187 fun x193 =>
j190 x193 h188) (j190 undefA h188)) fun x191 h192 =>
p_pick x160 x191 vF fun x194 =>
p_if x194 (p_loadN 0 x0 h192 fun x195 b196 =>
p_loadN 9 x125 h192 fun x197 b198 =>
c 139 [x195, x197] h192 (fun x201 h202 =>
j119 [] h202) kp) (p_loadN 0 x0 h192 fun x203 b204 =>
p_loadN 9 x125 h192 fun x205 b206 =>
c 68 [x203, x205] h192 (fun x209 h210 =>
j119 [] h210) kp))) (.ptr h118.n (nat_lit 0)) (alQ h118 (.cells .own (nat_lit 0) [(vi 0), (vi 0), vS, (vi 0), (vi 0), (vi 0), (vi 0), (.int .u64 (.ofNat 0)), .nilSlice]))) fun l120 h121 =>
p_add (nthV l113 0) (vi 1) fun x211 =>
r112 [x211] h121) [(vi 0)] h107) kp) (.ptr h62.n (nat_lit 0)) (alQ h62 (.cells .own (nat_lit 0) [(vi 0), (vi 0), vS, (vi 0), (vi 0), (vi 0), (vi 0), (.int .u64 (.ofNat 0)), .nilSlice]))) (.agg l63)) kp) false
noncomputable def h180 : FBody := fun c D k A h kr kp => ifB (Nat.beq (lenV A) 2) (
p_lenS (nthV A 0) fun x0 =>
p_lenS (nthV A 1) fun x1 =>
p_bin .geq fiGeq x0 x1 fun x2 =>
joinV (fun j3 => p_yes x2 (j3 (nthV A 0) h) (j3 undefA h)) fun x4 h5 =>
joinV (fun j6 => p_yes x2 (j6 (nthV A 1) h5) (j6 undefA h5)) fun x7 h8 =>
joinV (fun j9 => p_yes x2 (p_lenS x7 fun x12 =>
j9 x12 h8) (j9 undefA h8)) fun x10 h11 =>
joinV (fun j13 => p_yes x2 (asStr (fun s16 => onBnd x10 (lenB s16) fun n17 => (fun (x18 : AV) => j13 x18 h11) (.str (takeQ (dropC s16 0) (Nat.sub n17 0)))) x4) (j13 undefA h11)) fun x14 h15 =>
joinV (fun j19 => p_yes x2 (j19 (nthV A 1) h15) (j19 undefA h15)) fun x20 h21 =>
joinV (fun j22 => p_yes x2 (p_eq x14 x20 fun x25 =>
j22 x25 h21) (j22 undefA h21)) fun x23 h24 =>
p_pick x2 x23 vF fun x26 =>
kr x26 h24) false
noncomputable def h181 : FBody := fun c D k A h kr kp => ifB (Nat.beq (lenV A) 3) (
p_load1 (nthV A 1) h fun x0 b1 =>
asNil (
p_faddr 0 x0 fun x2 =>
p_faddr 0 x2 fun x3 =>
p_load1 x3 h fun x4 b5 =>
p_faddr 4 (nthV A 2) fun x6 =>
p_load1 x6 h fun x7 b8 =>
ifB (okAll (.rd b8) h h [⟨5, (.rd b5), h, h⟩, ⟨1, (.rd b1), h, h⟩]) (
p_iaddr 1 x4 x7 fun x9 =>
p_load1 x9 h fun x10 b11 =>
p_bin .neq fiNeq (nthV A 0) x10 fun x12 =>
kr x12 h) false) x0) false
noncomputable def h182 : FBody := fun c D k A h kr kp => ifB (Nat.beq (lenV A) 1) (
c 161 [(nthV A 0)] h (fun x2 h3 =>
joinV (fun j4 => p_no x2 (j4 (nthV A 0) h3) (j4 undefA h3)) fun x5 h6 =>
joinV (fun j7 => p_no x2 (c 163 [x5] h6 (fun x12 h13 =>
j7 x12 h13) kp) (j7 undefA h6)) fun x8 h9 =>
p_pick x2 vT x8 fun x14 =>
kr x14 h9) kp) false
noncomputable def h183 : FBody := fun c D k A h kr kp => ifB (Nat.beq (lenV A) 1) (
onFill [(0, 1, (.str [97, 100, 100])), (1, 1, (.str [97, 116, 111, 109, 105, 99])), (2, 1, (.str [98, 111, 111, 108])), (3, 1, (.str [99, 104, 97, 110])), (4, 1, (.str [101, 108, 115, 101])), (5, 1, (.str [102, 97, 105, 108])), (6, 1, (.str [102, 97, 108, 115, 101])), (7, 1, (.str [102, 108, 111, 97, 116])), (8, 1, (.str [102, 117, 110, 99])), (9, 1, (.str [103, 101, 116])), (10, 1, (.str [103, 111])), (11, 1, (.str [105, 102])), (12, 1, (.str [105, 110, 116])), (13, 1, (.str [108, 111, 99, 107])), (14, 1, (.str [109, 117, 116, 101, 120])), (15, 1, (.str [112, 117, 116])), (16, 1, (.str [114, 101, 99, 118])), (17, 1, (.str [114, 101, 116, 117, 114, 110])), (18, 1, (.str [115, 101, 110, 100])), (19, 1, (.str [116, 114, 117, 101])), (20, 1, (.str [117, 110, 108, 111, 99, 107])), (21, 1, (.str [118, 97, 114])), (22, 1, (.str [119, 104, 105, 108, 101]))] [vS, vS, vS, vS, vS, vS, vS, vS, vS, vS, vS, vS, vS, vS, vS, vS, vS, vS, vS, vS, vS, vS, vS] fun l0 => ifB (flatsQ l0) ((fun (x1 : AV) (h2 : AHeap) =>
c 128 [x1, (nthV A 0)] h2 (fun x5 h6 =>
kr x5 h6) kp) (.slice h.n (nat_lit 0) 23 23 true) (alQ h (.cells .own 1 l0))) false) false
noncomputable def h184 : FBody := fun c D k A h kr kp => ifB (Nat.beq (lenV A) 1) (
c 160 [(nthV A 0), (.func (.func 182) [] [])] h (fun x2 h3 =>
p_if x2 (p_load1 (.ptr 3 0) h3 fun x4 b5 =>
asNil (
p_faddr 1 (nthV A 0) fun x6 =>
p_load1 x6 h3 fun x7 b8 =>
ifB (okAll (.rd b8) h3 h3 [⟨1, (.rd b5), h3, h3⟩]) (
c 126 [(nthV A 0), x4, x7] h3 (fun x11 h12 =>
kr undefA h12) kp) false) (nthV A 0)) (kr undefA h3)) kp) false
noncomputable def h185 : FBody := fun c D k A h kr kp => ifB (Nat.beq (lenV A) 2) (
c 198 [(nthV A 0), (nthV A 1)] h (fun x2 h3 =>
kr x2 h3) kp) false
noncomputable def h186 : FBody := fun c D k A h kr kp => ifB (Nat.beq (lenV A) 1) (
(fun (x0 : AV) (h1 : AHeap) =>
c 49 [(nthV A 0)] h1 (fun x4 h5 =>
p_fld x4 4 fun x6 =>
asNil (
p_faddr 0 (nthV A 0) fun x7 =>
p_load1 x7 h5 fun x8 b9 =>
p_lenL x8 fun x10 =>
p_bin .gtr fiGtr x10 (vi 1) fun x11 =>
joinV (fun j12 => p_yes x11 (j12 (nthV A 0) h5) (j12 undefA h5)) fun x13 h14 =>
joinV (fun j15 => p_yes x11 (asNil (
j15 x13 h14) x13) (j15 undefA h14)) fun x16 h17 =>
joinV (fun j18 => p_yes x11 (p_faddr 0 x16 fun x21 =>
j18 x21 h17) (j18 undefA h17)) fun x19 h20 =>
joinV (fun j22 => p_yes x11 (p_load1 x19 h20 fun x25 b26 =>
j22 x25 h20) (j22 undefA h20)) fun x23 h24 =>
joinV (fun j27 => p_yes x11 (p_iaddr 5 x23 (vi 1) fun x30 =>
j27 x30 h24) (j27 undefA h24)) fun x28 h29 =>
joinV (fun j31 => p_yes x11 (p_faddr 0 x28 fun x34 =>
j31 x34 h29) (j31 undefA h29)) fun x32 h33 =>
joinV (fun j35 => p_yes x11 (p_load1 x32 h33 fun x38 b39 =>
j35 x38 h33) (j35 undefA h33)) fun x36 h37 =>
joinV (fun j40 => p_yes x11 (p_eq x36 (vi 5) fun x43 =>
j40 x43 h37) (j40 undefA h37)) fun x41 h42 =>
p_pick x11 x41 vF fun x44 =>
joinL (fun j45 => p_if x44 (
asNil (
p_faddr 0 (nthV A 0) fun x48 =>
p_load1 x48 h42 fun x49 b50 =>
p_iaddr 5 x49 (vi 1) fun x51 =>
p_faddr 1 x51 fun x52 =>
p_load1 x52 h42 fun x53 b54 =>
p_eq x53 (.str [58, 61]) fun x55 =>
p_if x55 (c 85 [(nthV A 0), (vi 1)] h42 (fun x58 h59 =>
p_fld x58 1 fun x60 =>
onFill [(0, 1, (vi 11)), (1, 1, x6), (2, 1, x60)] [(vi 0), (vi 0), vS, (vi 0), (vi 0), (vi 0), (vi 0), (.int .u64 (.ofNat 0)), .nilSlice] fun l61 => (fun (x62 : AV) => (fun (x63 : AV) (h64 : AHeap) =>
p_store 9 x63 x62 h64 fun h65 b66 =>
c 90 [(nthV A 0), (.str [58, 61])] h65 (fun x69 h70 =>
c 96 [(nthV A 0)] h70 (fun x73 h74 =>
onFill [(0, 9, x73)] [(vi 0), (vi 0), vS, (vi 0), (vi 0), (vi 0), (vi 0), (.int .u64 (.ofNat 0)), .nilSlice] fun l75 => ifB (flatsQ l75) ((fun (x76 : AV) (h77 : AHeap) =>
p_faddr 8 x63 fun x78 =>
p_store 1 x78 x76 h77 fun h79 b80 =>
p_loadN 9 x63 h79 fun x81 b82 =>
p_store 9 x0 x81 h79 fun h83 b84 =>
p_loadN 9 x0 h83 fun x85 b86 => kr x85 h83) (.slice h74.n (nat_lit 0) 1 1 true) (alQ h74 (.cells .own 9 l75))) false) kp) kp) (.ptr h59.n (nat_lit 0)) (alQ h59 (.cells .own (nat_lit 0) [(vi 0), (vi 0), vS, (vi 0), (vi 0), (vi 0), (vi 0), (.int .u64 (.ofNat 0)), .nilSlice]))) (.agg l61)) kp) (p_eq x53 (.str [40]) fun x87 =>
p_if x87 (c 85 [(nthV A 0), (vi 1)] h42 (fun x90 h91 =>
p_fld x90 1 fun x92 =>
onFill [(0, 1, (vi 13)), (1, 1, x6), (2, 1, x92)] [(vi 0), (vi 0), vS, (vi 0), (vi 0), (vi 0), (vi 0), (.int .u64 (.ofNat 0)), .nilSlice] fun l93 => (fun (x94 : AV) => (fun (x95 : AV) (h96 : AHeap) =>
p_store 9 x95 x94 h96 fun h97 b98 =>
c 187 [(nthV A 0)] h97 (fun x101 h102 =>
p_faddr 8 x95 fun x103 =>
p_store 1 x103 x101 h102 fun h104 b105 =>
p_loadN 9 x95 h104 fun x106 b107 =>
p_store 9 x0 x106 h104 fun h108 b109 =>
p_loadN 9 x0 h108 fun x110 b111 => kr x110 h108) kp) (.ptr h91.n (nat_lit 0)) (alQ h91 (.cells .own (nat_lit 0) [(vi 0), (vi 0), vS, (vi 0), (vi 0), (vi 0), (vi 0), (.int .u64 (.ofNat 0)), .nilSlice]))) (.agg l93)) kp) (j45 [] h42))) (nthV A 0)) (j45 [] h42)) fun l46 h47 =>
c 199 [(nthV A 0)] h47 (fun x114 h115 =>
(fun (x116 : AV) (h117 : AHeap) =>
p_store 9 x116 x114 h117 fun h118 b119 =>
p_faddr 0 x116 fun x120 =>
p_load1 x120 h118 fun x121 b122 =>
p_eq x121 (vi 28) fun x123 =>
joinV (fun j124 => p_yes x123 (j124 (nthV A 0) h118) (j124 undefA h118)) fun x125 h126 =>
joinV (fun j127 => p_yes x123 (onFill [(0, 1, (.str [61]))] [vS] fun l130 => ifB (flatsQ l130) ((fun (x131 : AV) (h132 : AHeap) =>
j127 x131 h132) (.slice h126.n (nat_lit 0) 1 1 true) (alQ h126 (.cells .own 1 l130))) false) (j127 undefA h126)) fun x128 h129 =>
joinV (fun j133 => p_yes x123 (c 84 [x125, x128] h129 (fun x138 h139 =>
j133 x138 h139) kp) (j133 undefA h129)) fun x134 h135 =>
joinV (fun j140 => p_yes x123 (p_not x134 fun x143 =>
j140 x143 h135) (j140 undefA h135)) fun x141 h142 =>
p_pick x123 x141 vF fun x144 =>
joinL (fun j145 => p_if x144 (
c 83 [(nthV A 0)] h142 (fun x150 h151 =>
j145 [] h151) kp) (j145 [] h142)) fun l146 h147 =>
c 90 [(nthV A 0), (.str [61])] h147 (fun x154 h155 =>
p_loadN 9 x116 h155 fun x156 b157 =>
c 96 [(nthV A 0)] h155 (fun x160 h161 =>
ifB (okAll .big h155 h161 [⟨1, (.rd b157), h155, h155⟩]) (
onFill [(0, 9, x156), (9, 9, x160)] [(vi 0), (vi 0), vS, (vi 0), (vi 0), (vi 0), (vi 0), (.int .u64 (.ofNat 0)), .nilSlice, (vi 0), (vi 0), vS, (vi 0), (vi 0), (vi 0), (vi 0), (.int .u64 (.ofNat 0)), .nilSlice] fun l162 => ifB (flatsQ l162) ((fun (x163 : AV) (h164 : AHeap) =>
onFill [(0, 1, (vi 10)), (1, 1, x6), (8, 1, x163)] [(vi 0), (vi 0), vS, (vi 0), (vi 0), (vi 0), (vi 0), (.int .u64 (.ofNat 0)), .nilSlice] fun l165 => (fun (x166 : AV) => p_store 9 x0 x166 h164 fun h167 b168 =>
p_loadN 9 x0 h167 fun x169 b170 => kr x169 h167) (.agg l165)) (.slice h161.n (nat_lit 0) 2 2 true) (alQ h161 (.cells .own 9 l162))) false) false) (fun p158 h159 => ifB (okAll .big h155 h159 [⟨1, (.rd b157), h155, h155⟩]) (
kp p158 h159) false)) kp) (.ptr h115.n (nat_lit 0)) (alQ h115 (.cells .own (nat_lit 0) [(vi 0), (vi 0), vS, (vi 0), (vi 0), (vi 0), (vi 0), (.int .u64 (.ofNat 0)), .nilSlice]))) kp) (nthV A 0)) kp) (.ptr h.n (nat_lit 0)) (alQ h (.cells .own (nat_lit 0) [(vi 0), (vi 0), vS, (vi 0), (vi 0), (vi 0), (vi 0), (.int .u64 (.ofNat 0)), .nilSlice]))) false
noncomputable def h187 : FBody := fun c D k A h kr kp => ifB (Nat.beq (lenV A) 1) (
c 131 [(nthV A 0), (.str [40])] h (fun x2 h3 =>
onFill [(0, 1, (.str [41]))] [vS] fun l4 => ifB (flatsQ l4) ((fun (x5 : AV) (h6 : AHeap) =>
c 84 [(nthV A 0), x5] h6 (fun x9 h10 =>
p_not x9 fun x11 =>
joinL (fun j12 =>
loopB k (fun r15 l16 h17 =>
joinL (fun j18 => p_if (nthV l16 1) (
j18 [] h17) (j12 [(nthV l16 0)] h17)) fun l19 h20 =>
joinL (fun j21 =>
c 96 [(nthV A 0)] h20 (fun x26 h27 =>
onFill [(0, 9, x26)] [(vi 0), (vi 0), vS, (vi 0), (vi 0), (vi 0), (vi 0), (.int .u64 (.ofNat 0)), .nilSlice] fun l28 => ifB (flatsQ l28) ((fun (x29 : AV) (h30 : AHeap) =>
p_append 9 96 (nthV l16 0) x29 h30 fun x31 h32 =>
j21 [x31] h32) (.slice h27.n (nat_lit 0) 1 1 true) (alQ h27 (.cells .own 9 l28))) false) kp) fun l22 h23 =>
c 130 [(nthV A 0), (.str [44])] h23 (fun x35 h36 =>
r15 [(nthV l22 0), x35] h36) kp) [.nilSlice, x11] h10) fun l13 h14 =>
c 133 [(nthV A 0), (.str [41])] h14 (fun x39 h40 =>
kr (nthV l13 0) h40) kp) kp) (.slice h3.n (nat_lit 0) 1 1 true) (alQ h3 (.cells .own 1 l4))) false) kp) false
noncomputable def h188 : FBody := fun c D k A h kr kp => ifB (Nat.beq (lenV A) 3) (
(fun (x0 : AV) (h1 : AHeap) =>
c 49 [(nthV A 0)] h1 (fun x4 h5 =>
p_fld x4 4 fun x6 =>
onFill [(0, 1, (nthV A 1)), (1, 1, x6)] [(vi 0), (vi 0), vS, (vi 0), (vi 0), (vi 0), (vi 0), (.int .u64 (.ofNat 0)), .nilSlice] fun l7 => (fun (x8 : AV) => (fun (x9 : AV) (h10 : AHeap) =>
p_store 9 x9 x8 h10 fun h11 b12 =>
asNil (
p_faddr 0 (nthV A 0) fun x13 =>
p_load1 x13 h11 fun x14 b15 =>
p_gen (.slc 5 (.t 17) (some (.c (vi 1))) none none) [(17, x14)] h11 fun x16 h17 k18 =>
asNil (
p_faddr 0 (nthV A 0) fun x19 =>
p_store 1 x19 x16 h17 fun h20 b21 =>
c 85 [(nthV A 0), (vi 1)] h20 (fun x24 h25 =>
p_fld x24 1 fun x26 =>
p_faddr 2 x9 fun x27 =>
p_store 1 x27 x26 h25 fun h28 b29 =>
p_eq (nthV A 2) (vi 0) fun x30 =>
joinL (fun j31 => p_if x30 (
p_loadN 9 x9 h28 fun x34 b35 =>
p_store 9 x0 x34 h28 fun h36 b37 =>
p_loadN 9 x0 h36 fun x38 b39 => kr x38 h36) (j31 [] h28)) fun l32 h33 =>
c 90 [(nthV A 0), (.str [44])] h33 (fun x42 h43 =>
p_eq (nthV A 2) (vi 1) fun x44 =>
joinL (fun j45 => p_if x44 (
c 96 [(nthV A 0)] h43 (fun x50 h51 =>
onFill [(0, 9, x50)] [(vi 0), (vi 0), vS, (vi 0), (vi 0), (vi 0), (vi 0), (.int .u64 (.ofNat 0)), .nilSlice] fun l52 => ifB (flatsQ l52) ((fun (x53 : AV) (h54 : AHeap) =>
p_faddr 8 x9 fun x55 =>
p_store 1 x55 x53 h54 fun h56 b57 =>
j45 [] h56) (.slice h51.n (nat_lit 0) 1 1 true) (alQ h51 (.cells .own 9 l52))) false) kp) (c 199 [(nthV A 0)] h43 (fun x60 h61 =>
onFill [(0, 9, x60)] [(vi 0), (vi 0), vS, (vi 0), (vi 0), (vi 0), (vi 0), (.int .u64 (.ofNat 0)), .nilSlice] fun l62 => ifB (flatsQ l62) ((fun (x63 : AV) (h64 : AHeap) =>
p_faddr 8 x9 fun x65 =>
p_store 1 x65 x63 h64 fun h66 b67 =>
j45 [] h66) (.slice h61.n (nat_lit 0) 1 1 true) (alQ h61 (.cells .own 9 l62))) false) kp)) fun l46 h47 =>
p_loadN 9 x9 h47 fun x68 b69 =>
p_store 9 x0 x68 h47 fun h70 b71 =>
p_loadN 9 x0 h70 fun x72 b73 => kr x72 h70) kp) kp) (nthV A 0)) (nthV A 0)) (.ptr h5.n (nat_lit 0)) (alQ h5 (.cells .own (nat_lit 0) [(vi 0), (vi 0), vS, (vi 0), (vi 0), (vi 0), (vi 0), (.int .u64 (.ofNat 0)), .nilSlice]))) (.agg l7)) kp) (.ptr h.n (nat_lit 0)) (alQ h (.cells .own (nat_lit 0) [(vi 0), (vi 0), vS, (vi 0), (vi 0), (vi 0), (vi 0), (.int .u64 (.ofNat 0)), .nilSlice]))) false
noncomputable def h189 : FBody := fun c D k A h kr kp => ifB (Nat.beq (lenV A) 1) (
(fun (x0 : AV) (h1 : AHeap) =>
(fun (x2 : AV) => onFill [(0, 1, (.str [43])), (1, 1, (.str [45]))] [vS, vS] fun l3 => ifB (flatsQ l3) ((fun (x4 : AV) (h5 : AHeap) =>
c 136 [(nthV A 0), x2, vT, x4] h5 (fun x8 h9 =>
p_store 9 x0 x8 h9 fun h10 b11 =>
p_loadN 9 x0 h10 fun x12 b13 => kr x12 h10) kp) (.slice h1.n (nat_lit 0) 2 2 true) (alQ h1 (.cells .own 1 l3))) false) (.func (.func 200) [(nthV A 0)] [])) (.ptr h.n (nat_lit 0)) (alQ h (.cells .own (nat_lit 0) [(vi 0), (vi 0), vS, (vi 0), (vi 0), (vi 0), (vi 0), (.int .u64 (.ofNat 0)), .nilSlice]))) false
noncomputable def h190 : FBody := fun c D k A h kr kp => ifB (Nat.beq (lenV A) 2) (
p_box (nthV A 0) h fun x0 h1 =>
p_box (nthV A 1) h1 fun x2 h3 =>
p_loadN 0 x0 h3 fun x4 b5 =>
p_faddr 0 x2 fun x6 =>
p_load1 x6 h3 fun x7 b8 =>
p_eq x7 (vi 28) fun x9 =>
joinV (fun j10 => p_no x9 (p_faddr 0 x2 fun x13 =>
j10 x13 h3) (j10 undefA h3)) fun x11 h12 =>
joinV (fun j14 => p_no x9 (p_load1 x11 h12 fun x17 b18 =>
j14 x17 h12) (j14 undefA h12)) fun x15 h16 =>
joinV (fun j19 => p_no x9 (p_eq x15 (vi 29) fun x22 =>
j19 x22 h16) (j19 undefA h16)) fun x20 h21 =>
p_pick x9 vT x20 fun x23 =>
c 98 [x4, x23] h21 (fun x26 h27 =>
p_loadN 0 x0 h27 fun x28 b29 =>
p_loadN 9 x2 h27 fun x30 b31 =>
c 68 [x28, x30] h27 (fun x34 h35 =>
kr undefA h35) kp) kp) false
noncomputable def h198 : FBody := fun c D k A h kr kp => ifB (Nat.beq (lenV A) 2) (
c 203 [(nthV A 0), (nthV A 1)] h (fun x2 h3 =>
kr x2 h3) kp) false
noncomputable def h199 : FBody := fun c D k A h kr kp => ifB (Nat.beq (lenV A) 1) (
(fun (x0 : AV) (h1 : AHeap) =>
c 85 [(nthV A 0), (vi 1)] h1 (fun x4 h5 =>
(fun (x6 : AV) (h7 : AHeap) =>
p_store 5 x6 x4 h7 fun h8 b9 =>
p_faddr 4 x6 fun x10 =>
p_load1 x10 h8 fun x11 b12 =>
p_faddr 1 x6 fun x13 =>
p_load1 x13 h8 fun x14 b15 =>
onFill [(0, 1, (vi 28)), (1, 1, x11), (2, 1, x14)] [(vi 0), (vi 0), vS, (vi 0), (vi 0), (vi 0), (vi 0), (.int .u64 (.ofNat 0)), .nilSlice] fun l16 => (fun (x17 : AV) => (fun (x18 : AV) (h19 : AHeap) =>
p_store 9 x18 x17 h19 fun h20 b21 =>
onFill [(0, 1, (.str [91]))] [vS] fun l22 => ifB (flatsQ l22) ((fun (x23 : AV) (h24 : AHeap) =>
c 84 [(nthV A 0), x23] h24 (fun x27 h28 =>
joinL (fun j29 => p_if x27 (
p_faddr 0 x18 fun x32 =>
p_store 1 x32 (vi 29) h28 fun h33 b34 =>
c 131 [(nthV A 0), (.str [91])] h33 (fun x37 h38 =>
c 96 [(nthV A 0)] h38 (fun x41 h42 =>
onFill [(0, 9, x41)] [(vi 0), (vi 0), vS, (vi 0), (vi 0), (vi 0), (vi 0), (.int .u64 (.ofNat 0)), .nilSlice] fun l43 => ifB (flatsQ l43) ((fun (x44 : AV) (h45 : AHeap) =>
p_faddr 8 x18 fun x46 =>
p_store 1 x46 x44 h45 fun h47 b48 =>
c 133 [(nthV A 0), (.str [93])] h47 (fun x51 h52 =>
j29 [] h52) kp) (.slice h42.n (nat_lit 0) 1 1 true) (alQ h42 (.cells .own 9 l43))) false) kp) kp) (j29 [] h28)) fun l30 h31 =>
p_loadN 9 x18 h31 fun x53 b54 =>
p_store 9 x0 x53 h31 fun h55 b56 =>
p_loadN 9 x0 h55 fun x57 b58 => kr x57 h55) kp) (.slice h20.n (nat_lit 0) 1 1 true) (alQ h20 (.cells .own 1 l22))) false) (.ptr h8.n (nat_lit 0)) (alQ h8 (.cells .own (nat_lit 0) [(vi 0), (vi 0), vS, (vi 0), (vi 0), (vi 0), (vi 0), (.int .u64 (.ofNat 0)), .nilSlice]))) (.agg l16)) (.ptr h5.n (nat_lit 0)) (alQ h5 (.cells .own (nat_lit 0) [(vi 0), vS, (vi 0), (.int .u64 (.ofNat 0)), (vi 0)]))) kp) (.ptr h.n (nat_lit 0)) (alQ h (.cells .own (nat_lit 0) [(vi 0), (vi 0), vS, (vi 0), (vi 0), (vi 0), (vi 0), (.int .u64 (.ofNat 0)), .nilSlice]))) false
noncomputable def h200 : FBody := fun c D k A h kr kp => ifB (Nat.beq (lenV A) 1) (
(fun (x0 : AV) (h1 : AHeap) =>
(fun (x2 : AV) => onFill [(0, 1, (.str [42])), (1, 1, (.str [47])), (2, 1, (.str [37]))] [vS, vS, vS] fun l3 => ifB (flatsQ l3) ((fun (x4 : AV) (h5 : AHeap) =>
c 136 [(nthV A 0), x2, vT, x4] h5 (fun x8 h9 =>
p_store 9 x0 x8 h9 fun h10 b11 =>
p_loadN 9 x0 h10 fun x12 b13 => kr x12 h10) kp) (.slice h1.n (nat_lit 0) 3 3 true) (alQ h1 (.cells .own 1 l3))) false) (.func (.func 204) [(nthV A 0)] [])) (.ptr h.n (nat_lit 0)) (alQ h (.cells .own (nat_lit 0) [(vi 0), (vi 0), vS, (vi 0), (vi 0), (vi 0), (vi 0), (.int .u64 (.ofNat 0)), .nilSlice]))) false
noncomputable def h204 : FBody := fun c D k A h kr kp => ifB (Nat.beq (lenV A) 1) (
(fun (x0 : AV) (h1 : AHeap) =>
onFill [(0, 1, (.str [45])), (1, 1, (.str [33]))] [vS, vS] fun l2 => ifB (flatsQ l2) ((fun (x3 : AV) (h4 : AHeap) =>
c 84 [(nthV A 0), x3] h4 (fun x7 h8 =>
p_not x7 fun x9 =>
joinL (fun j10 => p_if x9 (
c 205 [(nthV A 0)] h8 (fun x15 h16 =>
p_store 9 x0 x15 h16 fun h17 b18 =>
p_loadN 9 x0 h17 fun x19 b20 => kr x19 h17) kp) (j10 [] h8)) fun l11 h12 =>
c 49 [(nthV A 0)] h12 (fun x23 h24 =>
p_fld x23 1 fun x25 =>
c 131 [(nthV A 0), x25] h24 (fun x28 h29 =>
(fun (x30 : AV) (h31 : AHeap) =>
p_store 5 x30 x28 h31 fun h32 b33 =>
(fun (x34 : AV) (h35 : AHeap) =>
p_faddr 4 x30 fun x36 =>
p_load1 x36 h35 fun x37 b38 =>
ifB (okAll (.rd b38) h35 h35 [⟨8, .new, h32, h35⟩]) (
p_faddr 1 x30 fun x39 =>
p_load1 x39 h35 fun x40 b41 =>
ifB (okAll (.rd b41) h35 h35 [⟨1, (.rd b38), h35, h35⟩, ⟨8, .new, h32, h35⟩]) (
c 204 [(nthV A 0)] h35 (fun x44 h45 =>
ifB (okAll .big h35 h45 [⟨3, (.rd b41), h35, h35⟩, ⟨1, (.rd b38), h35, h35⟩, ⟨8, .new, h32, h35⟩]) (
onFill [(0, 9, x44)] [(vi 0), (vi 0), vS, (vi 0), (vi 0), (vi 0), (vi 0), (.int .u64 (.ofNat 0)), .nilSlice] fun l46 => ifB (flatsQ l46) ((fun (x47 : AV) (h48 : AHeap) =>
ifB (okAll .new h45 h48 [⟨3, (.rd b41), h35, h35⟩, ⟨1, (.rd b38), h35, h35⟩, ⟨8, .new, h32, h35⟩]) (
onFill [(0, 1, (vi 30)), (1, 1, x37), (2, 1, x40), (8, 1, x47)] [(vi 0), (vi 0), vS, (vi 0), (vi 0), (vi 0), (vi 0), (.int .u64 (.ofNat 0)), .nilSlice] fun l49 => (fun (x50 : AV) => ifB (okAll .free h48 h48 [⟨8, .new, h32, h35⟩]) (
p_store 9 x34 x50 h48 fun h51 b52 =>
asNil (
p_faddr 2 (nthV A 0) fun x53 =>
p_load1 x53 h51 fun x54 b55 =>
p_bin .sub fiSub x54 (vi 1) fun x56 =>
asNil (
p_faddr 2 (nthV A 0) fun x57 =>
p_store 1 x57 x56 h51 fun h58 b59 =>
p_loadN 9 x34 h58 fun x60 b61 =>
p_store 9 x0 x60 h58 fun h62 b63 =>
p_loadN 9 x0 h62 fun x64 b65 => kr x64 h62) (nthV A 0)) (nthV A 0)) false) (.agg l49)) false) (.slice h45.n (nat_lit 0) 1 1 true) (alQ h45 (.cells .own 9 l46))) false) false) (fun p42 h43 => ifB (okAll .big h35 h43 [⟨3, (.rd b41), h35, h35⟩, ⟨1, (.rd b38), h35, h35⟩, ⟨8, .new, h32, h35⟩]) (
kp p42 h43) false)) false) false) (.ptr h32.n (nat_lit 0)) (alQ h32 (.cells .own (nat_lit 0) [(vi 0), (vi 0), vS, (vi 0), (vi 0), (vi 0), (vi 0), (.int .u64 (.ofNat 0)), .nilSlice]))) (.ptr h29.n (nat_lit 0)) (alQ h29 (.cells .own (nat_lit 0) [(vi 0), vS, (vi 0), (.int .u64 (.ofNat 0)), (vi 0)]))) kp) kp) kp) (.slice h1.n (nat_lit 0) 2 2 true) (alQ h1 (.cells .own 1 l2))) false) (.ptr h.n (nat_lit 0)) (alQ h (.cells .own (nat_lit 0) [(vi 0), (vi 0), vS, (vi 0), (vi 0), (vi 0), (vi 0), (.int .u64 (.ofNat 0)), .nilSlice]))) false
noncomputable def h205 : FBody := fun c D k A h kr kp => ifB (Nat.beq (lenV A) 1) (
(fun (x0 : AV) (h1 : AHeap) =>
c 49 [(nthV A 0)] h1 (fun x4 h5 =>
(fun (x6 : AV) (h7 : AHeap) =>
p_store 5 x6 x4 h7 fun h8 b9 =>
joinL (fun j10 =>
p_faddr 0 x6 fun x13 =>
p_load1 x13 h8 fun x14 b15 =>
p_eq x14 (vi 3) fun x16 =>
p_if x16 (p_faddr 4 x6 fun x17 =>
p_load1 x17 h8 fun x18 b19 =>
c 85 [(nthV A 0), (vi 3)] h8 (fun x22 h23 =>
ifB (okAll .big h8 h23 [⟨1, (.rd b19), h8, h8⟩]) (
p_fld x22 2 fun x24 =>
onFill [(0, 1, (vi 25)), (1, 1, x18), (4, 1, x24)] [(vi 0), (vi 0), vS, (vi 0), (vi 0), (vi 0), (vi 0), (.int .u64 (.ofNat 0)), .nilSlice] fun l25 => (fun (x26 : AV) => p_store 9 x0 x26 h23 fun h27 b28 =>
p_loadN 9 x0 h27 fun x29 b30 => kr x29 h27) (.agg l25)) false) (fun p20 h21 => ifB (okAll .big h8 h21 [⟨1, (.rd b19), h8, h8⟩]) (
kp p20 h21) false)) (p_faddr 0 x6 fun x31 =>
p_load1 x31 h8 fun x32 b33 =>
p_eq x32 (vi 4) fun x34 =>
p_if x34 (p_faddr 4 x6 fun x35 =>
p_load1 x35 h8 fun x36 b37 =>
c 85 [(nthV A 0), (vi 4)] h8 (fun x40 h41 =>
ifB (okAll .big h8 h41 [⟨1, (.rd b37), h8, h8⟩]) (
p_fld x40 3 fun x42 =>
onFill [(0, 1, (vi 26)), (1, 1, x36), (7, 1, x42)] [(vi 0), (vi 0), vS, (vi 0), (vi 0), (vi 0), (vi 0), (.int .u64 (.ofNat 0)), .nilSlice] fun l43 => (fun (x44 : AV) => p_store 9 x0 x44 h41 fun h45 b46 =>
p_loadN 9 x0 h45 fun x47 b48 => kr x47 h45) (.agg l43)) false) (fun p38 h39 => ifB (okAll .big h8 h39 [⟨1, (.rd b37), h8, h8⟩]) (
kp p38 h39) false)) (p_faddr 0 x6 fun x49 =>
p_load1 x49 h8 fun x50 b51 =>
p_eq x50 (vi 1) fun x52 =>
p_if x52 (c 199 [(nthV A 0)] h8 (fun x55 h56 =>
p_store 9 x0 x55 h56 fun h57 b58 =>
p_loadN 9 x0 h57 fun x59 b60 => kr x59 h57) kp) (c 130 [(nthV A 0), (.str [116, 114, 117, 101])] h8 (fun x63 h64 =>
p_if x63 (p_faddr 4 x6 fun x65 =>
p_load1 x65 h64 fun x66 b67 =>
onFill [(0, 1, (vi 27)), (1, 1, x66), (4, 1, (vi 1))] [(vi 0), (vi 0), vS, (vi 0), (vi 0), (vi 0), (vi 0), (.int .u64 (.ofNat 0)), .nilSlice] fun l68 => (fun (x69 : AV) => p_store 9 x0 x69 h64 fun h70 b71 =>
p_loadN 9 x0 h70 fun x72 b73 => kr x72 h70) (.agg l68)) (c 130 [(nthV A 0), (.str [102, 97, 108, 115, 101])] h64 (fun x76 h77 =>
p_if x76 (p_faddr 4 x6 fun x78 =>
p_load1 x78 h77 fun x79 b80 =>
onFill [(0, 1, (vi 27)), (1, 1, x79)] [(vi 0), (vi 0), vS, (vi 0), (vi 0), (vi 0), (vi 0), (.int .u64 (.ofNat 0)), .nilSlice] fun l81 => (fun (x82 : AV) => p_store 9 x0 x82 h77 fun h83 b84 =>
p_loadN 9 x0 h83 fun x85 b86 => kr x85 h83) (.agg l81)) (onFill [(0, 1, (.str [105, 110, 116])), (1, 1, (.str [102, 108, 111, 97, 116]))] [vS, vS] fun l87 => ifB (flatsQ l87) ((fun (x88 : AV) (h89 : AHeap) =>
c 84 [(nthV A 0), x88] h89 (fun x92 h93 =>
p_if x92 (asNil (
p_faddr 0 (nthV A 0) fun x94 =>
p_load1 x94 h93 fun x95 b96 =>
p_gen (.slc 5 (.t 54) (some (.c (vi 1))) none none) [(54, x95)] h93 fun x97 h98 k99 =>
asNil (
p_faddr 0 (nthV A 0) fun x100 =>
p_store 1 x100 x97 h98 fun h101 b102 =>
c 131 [(nthV A 0), (.str [40])] h101 (fun x105 h106 =>
(fun (x107 : AV) (h108 : AHeap) =>
p_faddr 4 x6 fun x109 =>
p_load1 x109 h108 fun x110 b111 =>
ifB (okAll (.rd b111) h108 h108 [⟨8, .new, h106, h108⟩]) (
p_faddr 1 x6 fun x112 =>
p_load1 x112 h108 fun x113 b114 =>
ifB (okAll (.rd b114) h108 h108 [⟨1, (.rd b111), h108, h108⟩, ⟨8, .new, h106, h108⟩]) (
c 96 [(nthV A 0)] h108 (fun x117 h118 =>
ifB (okAll .big h108 h118 [⟨3, (.rd b114), h108, h108⟩, ⟨1, (.rd b111), h108, h108⟩, ⟨8, .new, h106, h108⟩]) (
onFill [(0, 9, x117)] [(vi 0), (vi 0), vS, (vi 0), (vi 0), (vi 0), (vi 0), (.int .u64 (.ofNat 0)), .nilSlice] fun l119 => ifB (flatsQ l119) ((fun (x120 : AV) (h121 : AHeap) =>
ifB (okAll .new h118 h121 [⟨3, (.rd b114), h108, h108⟩, ⟨1, (.rd b111), h108, h108⟩, ⟨8, .new, h106, h108⟩]) (
onFill [(0, 1, (vi 30)), (1, 1, x110), (2, 1, x113), (8, 1, x120)] [(vi 0), (vi 0), vS, (vi 0), (vi 0), (vi 0), (vi 0), (.int .u64 (.ofNat 0)), .nilSlice] fun l122 => (fun (x123 : AV) => ifB (okAll .free h121 h121 [⟨8, .new, h106, h108⟩]) (
p_store 9 x107 x123 h121 fun h124 b125 =>
c 133 [(nthV A 0), (.str [41])] h124 (fun x128 h129 =>
p_loadN 9 x107 h129 fun x130 b131 =>
p_store 9 x0 x130 h129 fun h132 b133 =>
p_loadN 9 x0 h132 fun x134 b135 => kr x134 h132) kp) false) (.agg l122)) false) (.slice h118.n (nat_lit 0) 1 1 true) (alQ h118 (.cells .own 9 l119))) false) false) (fun p115 h116 => ifB (okAll .big h108 h116 [⟨3, (.rd b114), h108, h108⟩, ⟨1, (.rd b111), h108, h108⟩, ⟨8, .new, h106, h108⟩]) (
kp p115 h116) false)) false) false) (.ptr h106.n (nat_lit 0)) (alQ h106 (.cells .own (nat_lit 0) [(vi 0), (vi 0), vS, (vi 0), (vi 0), (vi 0), (vi 0), (.int .u64 (.ofNat 0)), .nilSlice]))) kp) (nthV A 0)) (nthV A 0)) (j10 [] h93)) kp) (.slice h77.n (nat_lit 0) 2 2 true) (alQ h77 (.cells .own 1 l87))) false)) kp)) kp)))) fun l11 h12 =>
c 131 [(nthV A 0), (.str [40])] h12 (fun x138 h139 =>
c 96 [(nthV A 0)] h139 (fun x142 h143 =>
(fun (x144 : AV) (h145 : AHeap) =>
p_store 9 x144 x142 h145 fun h146 b147 =>
c 133 [(nthV A 0), (.str [41])] h146 (fun x150 h151 =>
p_loadN 9 x144 h151 fun x152 b153 =>
p_store 9 x0 x152 h151 fun h154 b155 =>
p_loadN 9 x0 h154 fun x156 b157 => kr x156 h154) kp) (.ptr h143.n (nat_lit 0)) (alQ h143 (.cells .own (nat_lit 0) [(vi 0), (vi 0), vS, (vi 0), (vi 0), (vi 0), (vi 0), (.int .u64 (.ofNat 0)), .nilSlice]))) kp) kp) (.ptr h5.n (nat_lit 0)) (alQ h5 (.cells .own (nat_lit 0) [(vi 0), vS, (vi 0), (.int .u64 (.ofNat 0)), (vi 0)]))) kp) (.ptr h.n (nat_lit 0)) (alQ h (.cells .own (nat_lit 0) [(vi 0), (vi 0), vS, (vi 0), (vi 0), (vi 0), (vi 0), (.int .u64 (.ofNat 0)), .nilSlice]))) false
end Go.Ev
