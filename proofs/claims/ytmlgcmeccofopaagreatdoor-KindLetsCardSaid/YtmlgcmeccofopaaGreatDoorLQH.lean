/- The functions as the fast evaluator runs them: printed by program. -/
import Derived.Test.YtmlgcmeccofopaaGreatDoorEvC
set_option linter.all false
set_option linter.unusedVariables false
set_option linter.unusedSimpArgs false
set_option linter.all false
set_option linter.unusedVariables false
namespace Go.Ev
open Go
set_option maxRecDepth 100000
noncomputable def h8 : FBody := fun c D k A h kr kp => ifB (Nat.beq (lenV A) 2) (
c 22 [] h (fun x2 h3 =>
p_not x2 fun x4 =>
joinL (fun j5 => p_if x4 (
kr vF h3) (j5 [vF] h3)) fun l6 h7 =>
p_gen (.bslice 1 [vS, vS, vS] 3 [(0, 1, (.c (.str [105]))), (1, 1, (.c (.str [102]))), (2, 1, (.c (.str [98])))]) [] h7 fun x8 h9 k10 =>
p_gen (.cvi .u64 (.t 15)) [(15, (nthV A 0))] h9 fun x11 h12 k13 =>
p_gen (.bin .rem (.t 16) (.c (.int .u64 (.ofNat 3)))) [(16, x11)] h12 fun x14 h15 k16 =>
p_gen (.cvi .i64 (.t 17)) [(17, x14)] h15 fun x17 h18 k19 =>
p_gen (.cvi .u64 (.t 19)) [(19, (nthV A 1))] h18 fun x20 h21 k22 =>
p_gen (.bin .rem (.t 20) (.c (.int .u64 (.ofNat 3)))) [(20, x20)] h21 fun x23 h24 k25 =>
p_gen (.cvi .i64 (.t 21)) [(21, x23)] h24 fun x26 h27 k28 =>
p_iaddr 1 x8 x17 fun x29 =>
p_load1 x29 h27 fun x30 b31 =>
p_bin .add fiAdd (.str [118, 97, 114, 32, 105, 32, 105, 110, 116, 59, 32, 118, 97, 114, 32, 102, 32, 102, 108, 111, 97, 116, 59, 32, 118, 97, 114, 32, 98, 32, 98, 111, 111, 108, 59, 32, 102, 117, 110, 99, 32, 109, 97, 105, 110, 40, 41, 32, 123, 32, 118, 32, 58, 61, 32]) x30 fun x32 =>
p_bin .add fiAdd x32 (.str [59, 32, 125]) fun x33 =>
c 24 [x33] h27 (fun x36 h37 =>
p_ext x36 0 fun x38 =>
p_ext x36 1 fun x39 =>
(fun (x40 : AV) (h41 : AHeap) =>
(fun (x42 : AV) (h43 : AHeap) =>
p_store 6 x40 x38 h43 fun h44 b45 =>
p_store 2 x42 x39 h44 fun h46 b47 =>
p_faddr 0 x42 fun x48 =>
p_load1 x48 h46 fun x49 b50 =>
p_eqv true (.one .iface) x49 .nilIface fun x51 =>
joinV (fun j52 => p_no x51 (p_faddr 4 x40 fun x55 =>
j52 x55 h46) (j52 undefA h46)) fun x53 h54 =>
joinV (fun j56 => p_no x51 (p_load1 x53 h54 fun x59 b60 =>
j56 x59 h54) (j56 undefA h54)) fun x57 h58 =>
joinV (fun j61 => p_no x51 (p_lenL x57 fun x64 =>
j61 x64 h58) (j61 undefA h58)) fun x62 h63 =>
joinV (fun j65 => p_no x51 (p_bin .neq fiNeq x62 (vi 1) fun x68 =>
j65 x68 h63) (j65 undefA h63)) fun x66 h67 =>
p_pick x51 vT x66 fun x69 =>
joinV (fun j70 => p_no x69 (p_faddr 4 x40 fun x73 =>
j70 x73 h67) (j70 undefA h67)) fun x71 h72 =>
joinV (fun j74 => p_no x69 (p_load1 x71 h72 fun x77 b78 =>
j74 x77 h72) (j74 undefA h72)) fun x75 h76 =>
joinV (fun j79 => p_no x69 (p_iaddr 12 x75 (vi 0) fun x82 =>
j79 x82 h76) (j79 undefA h76)) fun x80 h81 =>
joinV (fun j83 => p_no x69 (p_faddr 2 x80 fun x86 =>
j83 x86 h81) (j83 undefA h81)) fun x84 h85 =>
joinV (fun j87 => p_no x69 (p_load1 x84 h85 fun x90 b91 =>
j87 x90 h85) (j87 undefA h85)) fun x88 h89 =>
joinV (fun j92 => p_no x69 (p_lenL x88 fun x95 =>
j92 x95 h89) (j92 undefA h89)) fun x93 h94 =>
joinV (fun j96 => p_no x69 (p_bin .neq fiNeq x93 (vi 1) fun x99 =>
j96 x99 h94) (j96 undefA h94)) fun x97 h98 =>
p_pick x69 vT x97 fun x100 =>
joinV (fun j101 => p_no x100 (p_faddr 4 x40 fun x104 =>
j101 x104 h98) (j101 undefA h98)) fun x102 h103 =>
joinV (fun j105 => p_no x100 (p_load1 x102 h103 fun x108 b109 =>
j105 x108 h103) (j105 undefA h103)) fun x106 h107 =>
joinV (fun j110 => p_no x100 (p_iaddr 12 x106 (vi 0) fun x113 =>
j110 x113 h107) (j110 undefA h107)) fun x111 h112 =>
joinV (fun j114 => p_no x100 (p_faddr 2 x111 fun x117 =>
j114 x117 h112) (j114 undefA h112)) fun x115 h116 =>
joinV (fun j118 => p_no x100 (p_load1 x115 h116 fun x121 b122 =>
j118 x121 h116) (j118 undefA h116)) fun x119 h120 =>
joinV (fun j123 => p_no x100 (p_iaddr 1 x119 (vi 0) fun x126 =>
j123 x126 h120) (j123 undefA h120)) fun x124 h125 =>
joinV (fun j127 => p_no x100 (p_load1 x124 h125 fun x130 b131 =>
j127 x130 h125) (j127 undefA h125)) fun x128 h129 =>
joinV (fun j132 => p_no x100 (j132 x17 h129) (j132 undefA h129)) fun x133 h134 =>
joinV (fun j135 => p_no x100 (p_bin .add fiAdd (vi 1) x133 fun x138 =>
j135 x138 h134) (j135 undefA h134)) fun x136 h137 =>
joinV (fun j139 => p_no x100 (p_bin .neq fiNeq x128 x136 fun x142 =>
j139 x142 h137) (j139 undefA h137)) fun x140 h141 =>
p_pick x100 vT x140 fun x143 =>
joinL (fun j144 => p_if x143 (
kr vF h141) (j144 [(nthV l6 0)] h141)) fun l145 h146 =>
p_iaddr 1 x8 x17 fun x147 =>
p_load1 x147 h146 fun x148 b149 =>
p_bin .add fiAdd (.str [118, 32, 58, 61, 32]) x148 fun x150 =>
p_bin .add fiAdd x150 (.str [59, 32, 118, 32, 61, 32]) fun x151 =>
p_iaddr 1 x8 x26 fun x152 =>
p_load1 x152 h146 fun x153 b154 =>
ifB (okAll (.rd b154) h146 h146 [⟨3, (.rd b149), h146, h146⟩]) (
p_bin .add fiAdd x151 x153 fun x155 =>
p_bin .add fiAdd x155 (.str [59, 32]) fun x156 =>
p_iaddr 1 x8 x26 fun x157 =>
p_load1 x157 h146 fun x158 b159 =>
ifB (okAll (.rd b159) h146 h146 [⟨9, (.rd b154), h146, h146⟩, ⟨3, (.rd b149), h146, h146⟩]) (
p_bin .add fiAdd x156 x158 fun x160 =>
p_bin .add fiAdd x160 (.str [32, 61, 32, 118, 59]) fun x161 =>
c 23 [x161] h146 (fun x164 h165 =>
p_ext x164 0 fun x166 =>
p_ext x164 1 fun x167 =>
joinV (fun j168 => p_yes x167 (j168 x166 h165) (j168 undefA h165)) fun x169 h170 =>
joinV (fun j171 => p_yes x167 (j171 x17 h170) (j171 undefA h170)) fun x172 h173 =>
joinV (fun j174 => p_yes x167 (j174 x26 h173) (j174 undefA h173)) fun x175 h176 =>
joinV (fun j177 => p_yes x167 (p_eq x172 x175 fun x180 =>
j177 x180 h176) (j177 undefA h176)) fun x178 h179 =>
joinV (fun j181 => p_yes x167 (p_eqv false (.one .bool) x169 x178 fun x184 =>
j181 x184 h179) (j181 undefA h179)) fun x182 h183 =>
p_pick x167 x182 vF fun x185 =>
kr x185 h183) kp) false) false) (.ptr h41.n (nat_lit 0)) (alQ h41 (.cells .own (nat_lit 0) [.nilIface, (vi 0)]))) (.ptr h37.n (nat_lit 0)) (alQ h37 (.cells .own (nat_lit 0) [.nilSlice, (vi 0), (vi 0), .nilSlice, .nilSlice, (vi 0)]))) kp) kp) false
noncomputable def h16 : FBody := fun c D k A h kr kp => ifB (Nat.beq (lenV A) 1) (
p_gen (.box (.t 0)) [(0, (nthV A 0))] h fun x0 h1 k2 =>
(fun (x3 : AV) (h4 : AHeap) =>
(fun (x5 : AV) (h6 : AHeap) =>
p_gen (.mkmap) [] h6 fun x7 h8 k9 =>
p_gen (.build [.nilSlice, (vi 0), (vi 0), .nilSlice, .nilSlice, (vi 0), .nilMap, (vi 0), .nilSlice, .nilSlice, (vi 0)] [(6, 1, (.t 6))]) [(6, x7)] h8 fun x10 h11 k12 =>
p_gen (.box (.t 7)) [(7, x10)] h11 fun x13 h14 k15 =>
(fun (x16 : AV) (h17 : AHeap) =>
p_store 1 x16 x13 h17 fun h18 b19 =>
(fun (x20 : AV) => c 36 [x20] h18 (fun x23 h24 =>
(fun (x25 : AV) (h26 : AHeap) =>
p_store 2 x25 x23 h26 fun h27 b28 =>
p_faddr 0 x25 fun x29 =>
p_load1 x29 h27 fun x30 b31 =>
p_eqv true (.one .iface) x30 .nilIface fun x32 =>
joinL (fun j33 => p_if x32 (
p_gen (.build [.nilSlice, (vi 0), (vi 0), .nilSlice, .nilSlice, (vi 0)] []) [] h27 fun x36 h37 k38 =>
p_loadN 2 x25 h37 fun x39 b40 =>
ifB (okAll (.rd b40) h37 h37 [⟨0, k38, h27, h37⟩]) (
p_store 6 x3 x36 h37 fun h41 b42 =>
ifB (okAll (.wr b42) h37 h41 [⟨1, (.rd b40), h37, h37⟩]) (
p_store 2 x5 x39 h41 fun h43 b44 =>
p_loadN 6 x3 h43 fun x45 b46 => p_loadN 2 x5 h43 fun x47 b48 => kr (.tuple [x45, x47]) h43) false) false) (j33 [] h27)) fun l34 h35 =>
p_load1 x16 h35 fun x49 b50 =>
asNil (
p_faddr 0 x49 fun x51 =>
p_loadN 6 x51 h35 fun x52 b53 =>
p_gen (.build [.nilIface, (vi 0)] []) [] h35 fun x54 h55 k56 =>
p_store 6 x3 x52 h55 fun h57 b58 =>
p_store 2 x5 x54 h57 fun h59 b60 =>
p_loadN 6 x3 h59 fun x61 b62 => p_loadN 2 x5 h59 fun x63 b64 => kr (.tuple [x61, x63]) h59) x49) (.ptr h24.n (nat_lit 0)) (alQ h24 (.cells .own (nat_lit 0) [.nilIface, (vi 0)]))) kp) (.func (.func 37) [] [x0, x16])) (.ptr h14.n (nat_lit 0)) (alQ h14 (.cells .own (nat_lit 0) [.nilPtr]))) (.ptr h4.n (nat_lit 0)) (alQ h4 (.cells .own (nat_lit 0) [.nilIface, (vi 0)]))) (.ptr h1.n (nat_lit 0)) (alQ h1 (.cells .own (nat_lit 0) [.nilSlice, (vi 0), (vi 0), .nilSlice, .nilSlice, (vi 0)]))) false
noncomputable def h18 : FBody := fun c D k A h kr kp => ifB (Nat.beq (lenV A) 1) (
p_eqv false (.one .iface) (nthV A 0) .nilIface fun x0 =>
joinL (fun j1 => p_if x0 (
kr (vi 0) h) (j1 [(vi 0)] h)) fun l2 h3 =>
p_load1 (.ptr 2 0) h3 fun x4 b5 =>
p_load1 (.ptr 3 0) h3 fun x6 b7 =>
p_load1 (.ptr 4 0) h3 fun x8 b9 =>
p_load1 (.ptr 5 0) h3 fun x10 b11 =>
p_load1 (.ptr 6 0) h3 fun x12 b13 =>
p_load1 (.ptr 7 0) h3 fun x14 b15 =>
p_load1 (.ptr 8 0) h3 fun x16 b17 =>
p_load1 (.ptr 1 0) h3 fun x18 b19 =>
p_load1 (.ptr 0 0) h3 fun x20 b21 =>
p_load1 (.ptr 9 0) h3 fun x22 b23 =>
p_load1 (.ptr 10 0) h3 fun x24 b25 =>
p_load1 (.ptr 11 0) h3 fun x26 b27 =>
p_load1 (.ptr 12 0) h3 fun x28 b29 =>
p_load1 (.ptr 13 0) h3 fun x30 b31 =>
p_load1 (.ptr 14 0) h3 fun x32 b33 =>
p_load1 (.ptr 15 0) h3 fun x34 b35 =>
p_load1 (.ptr 16 0) h3 fun x36 b37 =>
p_gen (.bslice 1 [.nilIface, .nilIface, .nilIface, .nilIface, .nilIface, .nilIface, .nilIface, .nilIface, .nilIface, .nilIface, .nilIface, .nilIface, .nilIface, .nilIface, .nilIface, .nilIface, .nilIface] 17 [(0, 1, (.t 8)), (1, 1, (.t 9)), (2, 1, (.t 10)), (3, 1, (.t 11)), (4, 1, (.t 12)), (5, 1, (.t 13)), (6, 1, (.t 14)), (7, 1, (.t 15)), (8, 1, (.t 16)), (9, 1, (.t 17)), (10, 1, (.t 18)), (11, 1, (.t 19)), (12, 1, (.t 20)), (13, 1, (.t 21)), (14, 1, (.t 22)), (15, 1, (.t 23)), (16, 1, (.t 24))]) [(8, x4), (9, x6), (10, x8), (11, x10), (12, x12), (13, x14), (14, x16), (15, x18), (16, x20), (17, x22), (18, x24), (19, x26), (20, x28), (21, x30), (22, x32), (23, x34), (24, x36)] h3 fun x38 h39 k40 =>
p_lenL x38 fun x41 =>
joinL (fun j42 =>
loopB k (fun r45 l46 h47 =>
p_bin .lss fiLss (nthV l46 1) x41 fun x48 =>
joinL (fun j49 => p_if x48 (
j49 [] h47) (j42 [(nthV l46 0)] h47)) fun l50 h51 =>
joinL (fun j52 =>
p_iaddr 1 x38 (nthV l46 1) fun x55 =>
p_load1 x55 h51 fun x56 b57 =>
c 44 [(nthV A 0), x56] h51 (fun x60 h61 =>
p_if x60 (p_bin .add fiAdd (nthV l46 1) (vi 1) fun x62 =>
kr x62 h61) (j52 [(nthV l46 0)] h61)) kp) fun l53 h54 =>
p_bin .add fiAdd (nthV l46 1) (vi 1) fun x63 =>
r45 [(nthV l53 0), x63] h54) [(nthV l2 0), (vi 0)] h39) fun l43 h44 =>
kr (.int .i64 (.negSucc 0)) h44) false
noncomputable def h20 : FBody := fun c D k A h kr kp => ifB (Nat.beq (lenV A) 1) (
(fun (x0 : AV) (h1 : AHeap) =>
(fun (x2 : AV) (h3 : AHeap) =>
c 47 [(nthV A 0), (.func (.func 48) [] [])] h3 (fun x6 h7 =>
p_ext x6 0 fun x8 =>
p_ext x6 1 fun x9 =>
p_store 9 x0 x8 h7 fun h10 b11 =>
p_store 2 x2 x9 h10 fun h12 b13 =>
p_loadN 9 x0 h12 fun x14 b15 => p_loadN 2 x2 h12 fun x16 b17 => kr (.tuple [x14, x16]) h12) kp) (.ptr h1.n (nat_lit 0)) (alQ h1 (.cells .own (nat_lit 0) [.nilIface, (vi 0)]))) (.ptr h.n (nat_lit 0)) (alQ h (.cells .own (nat_lit 0) [(vi 0), (vi 0), vS, (vi 0), (vi 0), (vi 0), (vi 0), (.int .u64 (.ofNat 0)), .nilSlice]))) false
noncomputable def h22 : FBody := fun c D k A h kr kp => ifB (Nat.beq (lenV A) 0) (
c 24 [(.str [118, 97, 114, 32, 120, 32, 105, 110, 116, 59, 32, 102, 117, 110, 99, 32, 109, 97, 105, 110, 40, 41, 32, 123, 32, 120, 32, 61, 32, 116, 114, 117, 101, 59, 32, 125])] h (fun x2 h3 =>
p_ext x2 0 fun x4 =>
p_ext x2 1 fun x5 =>
(fun (x6 : AV) (h7 : AHeap) =>
(fun (x8 : AV) (h9 : AHeap) =>
p_store 6 x6 x4 h9 fun h10 b11 =>
p_store 2 x8 x5 h10 fun h12 b13 =>
c 24 [(.str [102, 117, 110, 99, 32, 109, 97, 105, 110, 40, 41, 32, 123, 32, 118, 32, 58, 61, 32, 49, 32, 60, 32, 50, 59, 32, 125])] h12 (fun x16 h17 =>
p_ext x16 0 fun x18 =>
p_ext x16 1 fun x19 =>
(fun (x20 : AV) (h21 : AHeap) =>
(fun (x22 : AV) (h23 : AHeap) =>
p_store 6 x20 x18 h23 fun h24 b25 =>
p_store 2 x22 x19 h24 fun h26 b27 =>
p_faddr 0 x8 fun x28 =>
p_load1 x28 h26 fun x29 b30 =>
c 18 [x29] h26 (fun x33 h34 =>
p_eq x33 (vi 5) fun x35 =>
joinV (fun j36 => p_yes x35 (p_faddr 1 x8 fun x39 =>
j36 x39 h34) (j36 undefA h34)) fun x37 h38 =>
joinV (fun j40 => p_yes x35 (p_load1 x37 h38 fun x43 b44 =>
j40 x43 h38) (j40 undefA h38)) fun x41 h42 =>
joinV (fun j45 => p_yes x35 (p_eq x41 (vi 25) fun x48 =>
j45 x48 h42) (j45 undefA h42)) fun x46 h47 =>
p_pick x35 x46 vF fun x49 =>
joinV (fun j50 => p_yes x49 (p_faddr 0 x22 fun x53 =>
j50 x53 h47) (j50 undefA h47)) fun x51 h52 =>
joinV (fun j54 => p_yes x49 (p_load1 x51 h52 fun x57 b58 =>
j54 x57 h52) (j54 undefA h52)) fun x55 h56 =>
joinV (fun j59 => p_yes x49 (p_eqv false (.one .iface) x55 .nilIface fun x62 =>
j59 x62 h56) (j59 undefA h56)) fun x60 h61 =>
p_pick x49 x60 vF fun x63 =>
joinV (fun j64 => p_yes x63 (p_faddr 4 x20 fun x67 =>
j64 x67 h61) (j64 undefA h61)) fun x65 h66 =>
joinV (fun j68 => p_yes x63 (p_load1 x65 h66 fun x71 b72 =>
j68 x71 h66) (j68 undefA h66)) fun x69 h70 =>
joinV (fun j73 => p_yes x63 (p_lenL x69 fun x76 =>
j73 x76 h70) (j73 undefA h70)) fun x74 h75 =>
joinV (fun j77 => p_yes x63 (p_eq x74 (vi 1) fun x80 =>
j77 x80 h75) (j77 undefA h75)) fun x78 h79 =>
p_pick x63 x78 vF fun x81 =>
joinV (fun j82 => p_yes x81 (p_faddr 4 x20 fun x85 =>
j82 x85 h79) (j82 undefA h79)) fun x83 h84 =>
joinV (fun j86 => p_yes x81 (p_load1 x83 h84 fun x89 b90 =>
j86 x89 h84) (j86 undefA h84)) fun x87 h88 =>
joinV (fun j91 => p_yes x81 (p_iaddr 12 x87 (vi 0) fun x94 =>
j91 x94 h88) (j91 undefA h88)) fun x92 h93 =>
joinV (fun j95 => p_yes x81 (p_faddr 2 x92 fun x98 =>
j95 x98 h93) (j95 undefA h93)) fun x96 h97 =>
joinV (fun j99 => p_yes x81 (p_load1 x96 h97 fun x102 b103 =>
j99 x102 h97) (j99 undefA h97)) fun x100 h101 =>
joinV (fun j104 => p_yes x81 (p_lenL x100 fun x107 =>
j104 x107 h101) (j104 undefA h101)) fun x105 h106 =>
joinV (fun j108 => p_yes x81 (p_eq x105 (vi 1) fun x111 =>
j108 x111 h106) (j108 undefA h106)) fun x109 h110 =>
p_pick x81 x109 vF fun x112 =>
joinV (fun j113 => p_yes x112 (p_faddr 4 x20 fun x116 =>
j113 x116 h110) (j113 undefA h110)) fun x114 h115 =>
joinV (fun j117 => p_yes x112 (p_load1 x114 h115 fun x120 b121 =>
j117 x120 h115) (j117 undefA h115)) fun x118 h119 =>
joinV (fun j122 => p_yes x112 (p_iaddr 12 x118 (vi 0) fun x125 =>
j122 x125 h119) (j122 undefA h119)) fun x123 h124 =>
joinV (fun j126 => p_yes x112 (p_faddr 2 x123 fun x129 =>
j126 x129 h124) (j126 undefA h124)) fun x127 h128 =>
joinV (fun j130 => p_yes x112 (p_load1 x127 h128 fun x133 b134 =>
j130 x133 h128) (j130 undefA h128)) fun x131 h132 =>
joinV (fun j135 => p_yes x112 (p_iaddr 1 x131 (vi 0) fun x138 =>
j135 x138 h132) (j135 undefA h132)) fun x136 h137 =>
joinV (fun j139 => p_yes x112 (p_load1 x136 h137 fun x142 b143 =>
j139 x142 h137) (j139 undefA h137)) fun x140 h141 =>
joinV (fun j144 => p_yes x112 (p_eq x140 (vi 3) fun x147 =>
j144 x147 h141) (j144 undefA h141)) fun x145 h146 =>
p_pick x112 x145 vF fun x148 =>
kr x148 h146) kp) (.ptr h21.n (nat_lit 0)) (alQ h21 (.cells .own (nat_lit 0) [.nilIface, (vi 0)]))) (.ptr h17.n (nat_lit 0)) (alQ h17 (.cells .own (nat_lit 0) [.nilSlice, (vi 0), (vi 0), .nilSlice, .nilSlice, (vi 0)]))) kp) (.ptr h7.n (nat_lit 0)) (alQ h7 (.cells .own (nat_lit 0) [.nilIface, (vi 0)]))) (.ptr h3.n (nat_lit 0)) (alQ h3 (.cells .own (nat_lit 0) [.nilSlice, (vi 0), (vi 0), .nilSlice, .nilSlice, (vi 0)]))) kp) false
noncomputable def h23 : FBody := fun c D k A h kr kp => ifB (Nat.beq (lenV A) 1) (
p_bin .add fiAdd (.str [118, 97, 114, 32, 105, 32, 105, 110, 116, 59, 32, 118, 97, 114, 32, 102, 32, 102, 108, 111, 97, 116, 59, 32, 118, 97, 114, 32, 98, 32, 98, 111, 111, 108, 59, 32, 102, 117, 110, 99, 32, 109, 97, 105, 110, 40, 41, 32, 123]) (nthV A 0) fun x0 =>
p_bin .add fiAdd x0 (.str [125]) fun x1 =>
c 24 [x1] h (fun x4 h5 =>
p_ext x4 0 fun x6 =>
p_ext x4 1 fun x7 =>
(fun (x8 : AV) (h9 : AHeap) =>
(fun (x10 : AV) (h11 : AHeap) =>
p_store 6 x8 x6 h11 fun h12 b13 =>
p_store 2 x10 x7 h12 fun h14 b15 =>
p_faddr 0 x10 fun x16 =>
p_load1 x16 h14 fun x17 b18 =>
c 18 [x17] h14 (fun x21 h22 =>
p_eq x21 (vi 0) fun x23 =>
p_eq x21 (vi 0) fun x24 =>
joinV (fun j25 => p_no x24 (j25 x21 h22) (j25 undefA h22)) fun x26 h27 =>
joinV (fun j28 => p_no x24 (p_eq x26 (vi 5) fun x31 =>
j28 x31 h27) (j28 undefA h27)) fun x29 h30 =>
p_pick x24 vT x29 fun x32 =>
kr (.tuple [x23, x32]) h30) kp) (.ptr h9.n (nat_lit 0)) (alQ h9 (.cells .own (nat_lit 0) [.nilIface, (vi 0)]))) (.ptr h5.n (nat_lit 0)) (alQ h5 (.cells .own (nat_lit 0) [.nilSlice, (vi 0), (vi 0), .nilSlice, .nilSlice, (vi 0)]))) kp) false
noncomputable def h24 : FBody := fun c D k A h kr kp => ifB (Nat.beq (lenV A) 1) (
(fun (x0 : AV) (h1 : AHeap) =>
(fun (x2 : AV) (h3 : AHeap) =>
c 20 [(nthV A 0)] h3 (fun x6 h7 =>
p_ext x6 0 fun x8 =>
p_ext x6 1 fun x9 =>
(fun (x10 : AV) (h11 : AHeap) =>
(fun (x12 : AV) (h13 : AHeap) =>
p_store 9 x10 x8 h13 fun h14 b15 =>
p_store 2 x12 x9 h14 fun h16 b17 =>
p_faddr 0 x12 fun x18 =>
p_load1 x18 h16 fun x19 b20 =>
p_eqv true (.one .iface) x19 .nilIface fun x21 =>
joinL (fun j22 => p_if x21 (
p_gen (.build [.nilSlice, (vi 0), (vi 0), .nilSlice, .nilSlice, (vi 0)] []) [] h16 fun x25 h26 k27 =>
p_loadN 2 x12 h26 fun x28 b29 =>
ifB (okAll (.rd b29) h26 h26 [⟨0, k27, h16, h26⟩]) (
p_store 6 x0 x25 h26 fun h30 b31 =>
ifB (okAll (.wr b31) h26 h30 [⟨1, (.rd b29), h26, h26⟩]) (
p_store 2 x2 x28 h30 fun h32 b33 =>
p_loadN 6 x0 h32 fun x34 b35 => p_loadN 2 x2 h32 fun x36 b37 => kr (.tuple [x34, x36]) h32) false) false) (j22 [] h16)) fun l23 h24 =>
p_loadN 9 x10 h24 fun x38 b39 =>
c 16 [x38] h24 (fun x42 h43 =>
p_ext x42 0 fun x44 =>
p_ext x42 1 fun x45 =>
(fun (x46 : AV) (h47 : AHeap) =>
p_store 6 x46 x44 h47 fun h48 b49 =>
p_store 2 x12 x45 h48 fun h50 b51 =>
p_faddr 0 x12 fun x52 =>
p_load1 x52 h50 fun x53 b54 =>
p_eqv true (.one .iface) x53 .nilIface fun x55 =>
joinL (fun j56 => p_if x55 (
p_gen (.build [.nilSlice, (vi 0), (vi 0), .nilSlice, .nilSlice, (vi 0)] []) [] h50 fun x59 h60 k61 =>
p_loadN 2 x12 h60 fun x62 b63 =>
ifB (okAll (.rd b63) h60 h60 [⟨0, k61, h50, h60⟩]) (
p_store 6 x0 x59 h60 fun h64 b65 =>
ifB (okAll (.wr b65) h60 h64 [⟨1, (.rd b63), h60, h60⟩]) (
p_store 2 x2 x62 h64 fun h66 b67 =>
p_loadN 6 x0 h66 fun x68 b69 => p_loadN 2 x2 h66 fun x70 b71 => kr (.tuple [x68, x70]) h66) false) false) (j56 [] h50)) fun l57 h58 =>
p_loadN 6 x46 h58 fun x72 b73 =>
c 51 [x72] h58 (fun x76 h77 =>
p_ext x76 0 fun x78 =>
p_ext x76 1 fun x79 =>
p_store 6 x0 x78 h77 fun h80 b81 =>
p_store 2 x2 x79 h80 fun h82 b83 =>
p_loadN 6 x0 h82 fun x84 b85 => p_loadN 2 x2 h82 fun x86 b87 => kr (.tuple [x84, x86]) h82) kp) (.ptr h43.n (nat_lit 0)) (alQ h43 (.cells .own (nat_lit 0) [.nilSlice, (vi 0), (vi 0), .nilSlice, .nilSlice, (vi 0)]))) kp) (.ptr h11.n (nat_lit 0)) (alQ h11 (.cells .own (nat_lit 0) [.nilIface, (vi 0)]))) (.ptr h7.n (nat_lit 0)) (alQ h7 (.cells .own (nat_lit 0) [(vi 0), (vi 0), vS, (vi 0), (vi 0), (vi 0), (vi 0), (.int .u64 (.ofNat 0)), .nilSlice]))) kp) (.ptr h1.n (nat_lit 0)) (alQ h1 (.cells .own (nat_lit 0) [.nilIface, (vi 0)]))) (.ptr h.n (nat_lit 0)) (alQ h (.cells .own (nat_lit 0) [.nilSlice, (vi 0), (vi 0), .nilSlice, .nilSlice, (vi 0)]))) false
noncomputable def h26 : FBody := fun c D k A h kr kp => ifB (Nat.beq (lenV A) 1) (
p_gen (.box (.t 0)) [(0, (nthV A 0))] h fun x0 h1 k2 =>
(fun (x3 : AV) => c 54 [x3] h1 (fun x6 h7 =>
kr x6 h7) kp) (.func (.func 55) [] [x0])) false
noncomputable def h35 : FBody := fun c D k A h kr kp => ifB (Nat.beq (lenV A) 1) (
p_gen (.box (.t 0)) [(0, (nthV A 0))] h fun x0 h1 k2 =>
p_loadN 6 x0 h1 fun x3 b4 =>
p_gen (.build [.nilSlice, (vi 0), (vi 0), .nilSlice, .nilSlice, (vi 0), vS, (vi 0), .nilSlice, (vi 0), (vi 0), vS, (vi 0), (vi 0), (vi 0), (vi 0), (.int .u64 (.ofNat 0)), .nilSlice] [(0, 6, (.t 4))]) [(4, x3)] h1 fun x5 h6 k7 =>
p_gen (.box (.t 5)) [(5, x5)] h6 fun x8 h9 k10 =>
(fun (x11 : AV) => c 36 [x11] h9 (fun x14 h15 =>
p_fld x14 0 fun x16 =>
kr x16 h15) kp) (.func (.func 71) [x8] [])) false
noncomputable def h36 : FBody := fun c D k A h kr kp => ifB (Nat.beq (lenV A) 1) (
(fun (x0 : AV) (h1 : AHeap) =>
(fun (x2 : AV) => p_fn x2 fun g3 a4 b5 => (fun (l6 : List AV) =>
p_fn (nthV A 0) fun g14 a15 b16 => c g14 (appL a15 (appL [] b16)) h1 (fun x12 h13 =>
p_gen (.build [.nilIface, (vi 0)] []) [] h13 fun x17 h18 k19 =>
p_store 2 x0 x17 h18 fun h20 b21 =>
D g3 l6 .ret h20 fun h22 =>
p_loadN 2 x0 h22 fun x23 b24 => kr x23 h22) (fun p7 h8 => D g3 l6 (.pan p7) h8 fun h9 =>
p_loadN 2 x0 h9 fun x10 b11 => kr x10 h9)) (appL a4 b5)) (.func (.func 72) [] [x0])) (.ptr h.n (nat_lit 0)) (alQ h (.cells .own (nat_lit 0) [.nilIface, (vi 0)]))) false
noncomputable def h37 : FBody := fun c D k A h kr kp => ifB (Nat.beq (lenV A) 2) (
p_loadN 9 (nthV A 0) h fun x0 b1 =>
c 26 [x0] h (fun x6 h7 =>
p_eqv false (.one .iface) x6 .nilIface fun x8 =>
p_load1 (.ptr 0 0) h7 fun x9 b10 =>
ifB (okAll (.rd b10) h7 h7 [⟨1, .big, h, h7⟩, ⟨0, (.rd b1), h, h⟩]) (
c 38 [x8, x9, (vi 0)] h7 (fun x13 h14 =>
p_faddr 8 (nthV A 0) fun x15 =>
p_load1 x15 h14 fun x16 b17 =>
p_lenL x16 fun x18 =>
joinL (fun j19 =>
loopB k (fun r22 l23 h24 =>
p_bin .lss fiLss (nthV l23 0) x18 fun x25 =>
joinL (fun j26 => p_if x25 (
j26 [] h24) (j19 [] h24)) fun l27 h28 =>
joinL (fun j29 =>
p_iaddr 9 x16 (nthV l23 0) fun x32 =>
p_loadN 9 x32 h28 fun x33 b34 =>
(fun (x35 : AV) (h36 : AHeap) =>
p_store 9 x35 x33 h36 fun h37 b38 =>
p_load1 (nthV A 1) h37 fun x39 b40 =>
p_loadN 9 x35 h37 fun x41 b42 =>
c 39 [x39, x41] h37 (fun x45 h46 =>
j29 [] h46) kp) (.ptr h28.n (nat_lit 0)) (alQ h28 (.cells .own (nat_lit 0) [(vi 0), (vi 0), vS, (vi 0), (vi 0), (vi 0), (vi 0), (.int .u64 (.ofNat 0)), .nilSlice]))) fun l30 h31 =>
p_bin .add fiAdd (nthV l23 0) (vi 1) fun x47 =>
r22 [x47] h31) [(vi 0)] h14) fun l20 h21 =>
p_load1 (nthV A 1) h21 fun x48 b49 =>
asNil (
p_faddr 6 x48 fun x50 =>
p_load1 x50 h21 fun x51 b52 =>
p_gen (.lookup (.one .str) (.agg [(vi 0), (vi 0), (vi 0)]) (.t 29) (.c (.str [109, 97, 105, 110])) true) [(29, x51)] h21 fun x53 h54 k55 =>
p_ext x53 0 fun x56 =>
p_ext x53 1 fun x57 =>
(fun (x58 : AV) (h59 : AHeap) =>
p_store 3 x58 x56 h59 fun h60 b61 =>
joinC (fun j62 => p_yes x57 (p_faddr 0 x58 fun x67 =>
j62 x67 h60 .free h60) (j62 undefA h60 .free h60)) fun x63 h64 k65 h66 =>
joinC (fun j68 => p_yes x57 (p_load1 x63 h64 fun x73 b74 =>
j68 x73 h64 (.rd b74) h64) (j68 undefA h64 .free h64)) fun x69 h70 k71 h72 =>
joinC (fun j75 => p_yes x57 (p_eq x69 (vi 7) fun x80 =>
j75 x80 h70 .free h70) (j75 undefA h70 .free h70)) fun x76 h77 k78 h79 =>
p_pick x57 x76 vF fun x81 =>
joinC (fun j82 => p_yes x81 (p_load1 (nthV A 1) h77 fun x87 b88 =>
j82 x87 h77 (.rd b88) h77) (j82 undefA h77 .free h77)) fun x83 h84 k85 h86 =>
joinC (fun j89 => p_yes x81 (asNil (
j89 x83 h84 .free h84) x83) (j89 undefA h84 .free h84)) fun x90 h91 k92 h93 =>
joinC (fun j94 => p_yes x81 (p_faddr 0 x90 fun x99 =>
j94 x99 h91 .free h91) (j94 undefA h91 .free h91)) fun x95 h96 k97 h98 =>
joinC (fun j100 => p_yes x81 (p_faddr 4 x95 fun x105 =>
j100 x105 h96 .free h96) (j100 undefA h96 .free h96)) fun x101 h102 k103 h104 =>
joinC (fun j106 => p_yes x81 (p_load1 x101 h102 fun x111 b112 =>
j106 x111 h102 (.rd b112) h102) (j106 undefA h102 .free h102)) fun x107 h108 k109 h110 =>
joinC (fun j113 => p_yes x81 (p_faddr 1 x58 fun x118 =>
j113 x118 h108 .free h108) (j113 undefA h108 .free h108)) fun x114 h115 k116 h117 =>
joinC (fun j119 => p_yes x81 (p_load1 x114 h115 fun x124 b125 =>
ifB (okAll (.rd b125) h115 h115 [⟨11, k109, h110, h108⟩, ⟨7, k85, h86, h84⟩]) (
j119 x124 h115 (.rd b125) h115) false) (j119 undefA h115 .free h115)) fun x120 h121 k122 h123 =>
joinC (fun j126 => p_yes x81 (p_iaddr 12 x107 x120 fun x131 =>
j126 x131 h121 .free h121) (j126 undefA h121 .free h121)) fun x127 h128 k129 h130 =>
joinC (fun j132 => p_yes x81 (p_faddr 1 x127 fun x137 =>
j132 x137 h128 .free h128) (j132 undefA h128 .free h128)) fun x133 h134 k135 h136 =>
joinC (fun j138 => p_yes x81 (p_load1 x133 h134 fun x143 b144 =>
j138 x143 h134 (.rd b144) h134) (j138 undefA h134 .free h134)) fun x139 h140 k141 h142 =>
joinC (fun j145 => p_yes x81 (p_eq x139 (vi 0) fun x150 =>
j145 x150 h140 .free h140) (j145 undefA h140 .free h140)) fun x146 h147 k148 h149 =>
p_pick x81 x146 vF fun x151 =>
p_load1 (.ptr 1 0) h147 fun x152 b153 =>
ifB (okAll (.rd b153) h147 h147 [⟨16, k141, h142, h140⟩, ⟨13, k122, h123, h121⟩, ⟨11, k109, h110, h108⟩, ⟨7, k85, h86, h84⟩, ⟨3, k71, h72, h70⟩]) (
c 38 [x151, x152, (vi 0)] h147 (fun x156 h157 =>
p_load1 (nthV A 1) h157 fun x158 b159 =>
p_faddr 1 x58 fun x160 =>
p_load1 x160 h157 fun x161 b162 =>
asNil (
p_faddr 0 x158 fun x163 =>
p_faddr 5 x163 fun x164 =>
p_store 1 x164 x161 h157 fun h165 b166 =>
p_faddr 8 (nthV A 0) fun x167 =>
p_load1 x167 h165 fun x168 b169 =>
p_lenL x168 fun x170 =>
loopB k (fun r171 l172 h173 =>
p_bin .lss fiLss (nthV l172 1) x170 fun x174 =>
joinL (fun j175 => p_if x174 (
j175 [] h173) (kr undefA h173)) fun l176 h177 =>
joinL (fun j178 =>
p_iaddr 9 x168 (nthV l172 1) fun x181 =>
p_loadN 9 x181 h177 fun x182 b183 =>
(fun (x184 : AV) (h185 : AHeap) =>
p_store 9 x184 x182 h185 fun h186 b187 =>
p_faddr 0 x184 fun x188 =>
p_load1 x188 h186 fun x189 b190 =>
p_eq x189 (vi 7) fun x191 =>
p_if x191 (p_load1 (nthV A 1) h186 fun x192 b193 =>
p_loadN 9 x184 h186 fun x194 b195 =>
c 40 [x192, (nthV l172 0), x194] h186 (fun x198 h199 =>
p_bin .add fiAdd (nthV l172 0) (vi 1) fun x200 =>
j178 [x200] h199) kp) (j178 [(nthV l172 0)] h186)) (.ptr h177.n (nat_lit 0)) (alQ h177 (.cells .own (nat_lit 0) [(vi 0), (vi 0), vS, (vi 0), (vi 0), (vi 0), (vi 0), (.int .u64 (.ofNat 0)), .nilSlice]))) fun l179 h180 =>
p_bin .add fiAdd (nthV l172 1) (vi 1) fun x201 =>
r171 [(nthV l179 0), x201] h180) [(vi 0), (vi 0)] h165) x158) kp) false) (.ptr h54.n (nat_lit 0)) (alQ h54 (.cells .own (nat_lit 0) [(vi 0), (vi 0), (vi 0)]))) x48) kp) false) (fun p2 h3 => p_load1 (.ptr 0 0) h3 fun x4 b5 =>
ifB (okAll (.rd b5) h3 h3 [⟨1, .big, h, h3⟩, ⟨0, (.rd b1), h, h⟩]) (
kp p2 h3) false)) false
noncomputable def h38 : FBody := fun c D k A h kr kp => ifB (Nat.beq (lenV A) 3) (
p_not (nthV A 0) fun x0 =>
p_if x0 (p_gen (.build [.nilIface, (vi 0)] [(0, 1, (.t 8)), (1, 1, (.t 9))]) [(8, (nthV A 1)), (9, (nthV A 2))] h fun x1 h2 k3 =>
p_gen (.build [.nilIface, (vi 0)] [(0, 2, (.t 10))]) [(10, x1)] h2 fun x4 h5 k6 =>
(fun (x7 : AV) => asIf (fun t8 x9 => kp (.iface t8 x9) h5) x7) (.iface 124 x4)) (kr undefA h)) false
noncomputable def h39 : FBody := fun c D k A h kr kp => ifB (Nat.beq (lenV A) 2) (
p_gen (.box (.t 1)) [(1, (nthV A 1))] h fun x0 h1 k2 =>
(fun (x3 : AV) (h4 : AHeap) =>
asNil (
p_faddr 6 (nthV A 0) fun x5 =>
p_load1 x5 h4 fun x6 b7 =>
ifB (okAll (.rd b7) h4 h4 [⟨10, .new, h1, h4⟩]) (
p_faddr 2 x0 fun x8 =>
p_load1 x8 h4 fun x9 b10 =>
ifB (okAll (.rd b10) h4 h4 [⟨3, (.rd b7), h4, h4⟩, ⟨10, .new, h1, h4⟩]) (
p_gen (.lookup (.one .str) (.agg [(vi 0), (vi 0), (vi 0)]) (.t 11) (.t 13) true) [(11, x6), (13, x9)] h4 fun x11 h12 k13 =>
ifB (okAll k13 h4 h12 [⟨10, .new, h1, h4⟩]) (
p_ext x11 0 fun x14 =>
p_ext x11 1 fun x15 =>
p_store 3 x3 x14 h12 fun h16 b17 =>
p_not x15 fun x18 =>
p_load1 (.ptr 5 0) h16 fun x19 b20 =>
p_faddr 1 x0 fun x21 =>
p_load1 x21 h16 fun x22 b23 =>
c 38 [x18, x19, x22] h16 (fun x26 h27 =>
p_faddr 0 x0 fun x28 =>
p_load1 x28 h27 fun x29 b30 =>
p_gen (.build [(vi 0), (vi 0), (vi 0)] [(0, 1, (.t 24)), (2, 1, (.c (vi 1)))]) [(24, x29)] h27 fun x31 h32 k33 =>
(fun (x34 : AV) (h35 : AHeap) =>
p_store 3 x34 x31 h35 fun h36 b37 =>
p_faddr 0 x0 fun x38 =>
p_load1 x38 h36 fun x39 b40 =>
p_bin .neq fiNeq x39 (vi 7) fun x41 =>
joinL (fun j42 => p_if x41 (
asNil (
p_faddr 7 (nthV A 0) fun x45 =>
p_load1 x45 h36 fun x46 b47 =>
p_bin .add fiAdd x46 (vi 1) fun x48 =>
asNil (
p_faddr 7 (nthV A 0) fun x49 =>
p_store 1 x49 x48 h36 fun h50 b51 =>
j42 [] h50) (nthV A 0)) (nthV A 0)) (j42 [] h36)) fun l43 h44 =>
p_faddr 0 x0 fun x52 =>
p_load1 x52 h44 fun x53 b54 =>
joinL (fun j55 =>
p_eq x53 (vi 3) fun x58 =>
joinL (fun j59 => p_if x58 (
j59 [x58] h44) (p_eq x53 (vi 2) fun x62 =>
j59 [x62] h44)) fun l60 h61 =>
p_if (nthV l60 0) (p_faddr 0 x0 fun x63 =>
p_load1 x63 h61 fun x64 b65 =>
p_eq x64 (vi 3) fun x66 =>
joinL (fun j67 => p_if x66 (
p_faddr 4 x0 fun x70 =>
p_load1 x70 h61 fun x71 b72 =>
p_bin .geq fiGeq x71 (vi 1) fun x73 =>
joinV (fun j74 => p_yes x73 (p_faddr 4 x0 fun x77 =>
j74 x77 h61) (j74 undefA h61)) fun x75 h76 =>
joinV (fun j78 => p_yes x73 (p_load1 x75 h76 fun x81 b82 =>
j78 x81 h76) (j78 undefA h76)) fun x79 h80 =>
joinV (fun j83 => p_yes x73 (p_bin .leq fiLeq x79 (vi 64) fun x86 =>
j83 x86 h80) (j83 undefA h80)) fun x84 h85 =>
p_pick x73 x84 vF fun x87 =>
p_load1 (.ptr 2 0) h85 fun x88 b89 =>
p_faddr 1 x0 fun x90 =>
p_load1 x90 h85 fun x91 b92 =>
c 38 [x87, x88, x91] h85 (fun x95 h96 =>
p_faddr 4 x0 fun x97 =>
p_load1 x97 h96 fun x98 b99 =>
p_faddr 2 x34 fun x100 =>
p_store 1 x100 x98 h96 fun h101 b102 =>
j67 [] h101) kp) (j67 [] h61)) fun l68 h69 =>
asNil (
p_faddr 0 (nthV A 0) fun x103 =>
p_faddr 0 x103 fun x104 =>
p_load1 x104 h69 fun x105 b106 =>
p_lenL x105 fun x107 =>
p_faddr 1 x34 fun x108 =>
p_store 1 x108 x107 h69 fun h109 b110 =>
asNil (
p_faddr 0 (nthV A 0) fun x111 =>
p_faddr 0 x111 fun x112 =>
p_load1 x112 h109 fun x113 b114 =>
p_faddr 3 x0 fun x115 =>
p_load1 x115 h109 fun x116 b117 =>
ifB (okAll (.rd b117) h109 h109 [⟨5, (.rd b114), h109, h109⟩]) (
p_gen (.bslice 1 [(vi 0)] 1 [(0, 1, (.t 103))]) [(103, x116)] h109 fun x118 h119 k120 =>
ifB (okAll k120 h109 h119 [⟨5, (.rd b114), h109, h109⟩]) (
p_faddr 2 x34 fun x121 =>
p_load1 x121 h119 fun x122 b123 =>
ifB (okAll (.rd b123) h119 h119 [⟨8, k120, h109, h119⟩, ⟨7, (.rd b117), h109, h109⟩, ⟨5, (.rd b114), h109, h109⟩]) (
c 73 [x118, x122] h119 (fun x126 h127 =>
ifB (okAll .big h119 h127 [⟨5, (.rd b114), h109, h109⟩]) (
p_gen (.append 1 8 (.t 101) (.t 107)) [(101, x113), (107, x126)] h127 fun x128 h129 k130 =>
asNil (
p_faddr 0 (nthV A 0) fun x131 =>
p_faddr 0 x131 fun x132 =>
p_store 1 x132 x128 h129 fun h133 b134 =>
j55 [] h133) (nthV A 0)) false) (fun p124 h125 => ifB (okAll .big h119 h125 [⟨5, (.rd b114), h109, h109⟩]) (
kp p124 h125) false)) false) false) false) (nthV A 0)) (nthV A 0)) (p_eq x53 (vi 4) fun x135 =>
p_if x135 (asNil (
p_faddr 0 (nthV A 0) fun x136 =>
p_faddr 1 x136 fun x137 =>
p_load1 x137 h61 fun x138 b139 =>
p_faddr 1 x34 fun x140 =>
p_store 1 x140 x138 h61 fun h141 b142 =>
asNil (
p_faddr 0 (nthV A 0) fun x143 =>
p_faddr 1 x143 fun x144 =>
p_load1 x144 h141 fun x145 b146 =>
p_bin .add fiAdd x145 (vi 1) fun x147 =>
asNil (
p_faddr 0 (nthV A 0) fun x148 =>
p_faddr 1 x148 fun x149 =>
p_store 1 x149 x147 h141 fun h150 b151 =>
j55 [] h150) (nthV A 0)) (nthV A 0)) (nthV A 0)) (p_eq x53 (vi 6) fun x152 =>
p_if x152 (asNil (
p_faddr 0 (nthV A 0) fun x153 =>
p_faddr 2 x153 fun x154 =>
p_load1 x154 h61 fun x155 b156 =>
p_faddr 1 x34 fun x157 =>
p_store 1 x157 x155 h61 fun h158 b159 =>
asNil (
p_faddr 0 (nthV A 0) fun x160 =>
p_faddr 2 x160 fun x161 =>
p_load1 x161 h158 fun x162 b163 =>
p_bin .add fiAdd x162 (vi 1) fun x164 =>
asNil (
p_faddr 0 (nthV A 0) fun x165 =>
p_faddr 2 x165 fun x166 =>
p_store 1 x166 x164 h158 fun h167 b168 =>
j55 [] h167) (nthV A 0)) (nthV A 0)) (nthV A 0)) (p_eq x53 (vi 5) fun x169 =>
p_if x169 (p_faddr 4 x0 fun x170 =>
p_load1 x170 h61 fun x171 b172 =>
p_bin .leq fiLeq x171 (vi 8) fun x173 =>
p_load1 (.ptr 2 0) h61 fun x174 b175 =>
p_faddr 1 x0 fun x176 =>
p_load1 x176 h61 fun x177 b178 =>
c 38 [x173, x174, x177] h61 (fun x181 h182 =>
asNil (
p_faddr 0 (nthV A 0) fun x183 =>
p_faddr 3 x183 fun x184 =>
p_load1 x184 h182 fun x185 b186 =>
p_lenL x185 fun x187 =>
p_faddr 1 x34 fun x188 =>
p_store 1 x188 x187 h182 fun h189 b190 =>
asNil (
p_faddr 0 (nthV A 0) fun x191 =>
p_faddr 3 x191 fun x192 =>
p_load1 x192 h189 fun x193 b194 =>
p_faddr 3 x0 fun x195 =>
p_load1 x195 h189 fun x196 b197 =>
ifB (okAll (.rd b197) h189 h189 [⟨5, (.rd b194), h189, h189⟩]) (
p_faddr 4 x0 fun x198 =>
p_load1 x198 h189 fun x199 b200 =>
ifB (okAll (.rd b200) h189 h189 [⟨7, (.rd b197), h189, h189⟩, ⟨5, (.rd b194), h189, h189⟩]) (
p_gen (.build [(vi 0), (vi 0)] [(0, 1, (.t 169)), (1, 1, (.t 171))]) [(169, x196), (171, x199)] h189 fun x201 h202 k203 =>
ifB (okAll k203 h189 h202 [⟨5, (.rd b194), h189, h189⟩]) (
p_gen (.bslice 2 [(vi 0), (vi 0)] 1 [(0, 2, (.t 172))]) [(172, x201)] h202 fun x204 h205 k206 =>
ifB (okAll k206 h202 h205 [⟨5, (.rd b194), h189, h189⟩]) (
p_gen (.append 2 16 (.t 167) (.t 173)) [(167, x193), (173, x204)] h205 fun x207 h208 k209 =>
asNil (
p_faddr 0 (nthV A 0) fun x210 =>
p_faddr 3 x210 fun x211 =>
p_store 1 x211 x207 h208 fun h212 b213 =>
j55 [] h212) (nthV A 0)) false) false) false) false) (nthV A 0)) (nthV A 0)) kp) (asNil (
p_faddr 0 (nthV A 0) fun x214 =>
p_faddr 4 x214 fun x215 =>
p_load1 x215 h61 fun x216 b217 =>
p_lenL x216 fun x218 =>
p_faddr 1 x34 fun x219 =>
p_store 1 x219 x218 h61 fun h220 b221 =>
asNil (
p_faddr 0 (nthV A 0) fun x222 =>
p_faddr 4 x222 fun x223 =>
p_load1 x223 h220 fun x224 b225 =>
p_faddr 2 x0 fun x226 =>
p_load1 x226 h220 fun x227 b228 =>
ifB (okAll (.rd b228) h220 h220 [⟨5, (.rd b225), h220, h220⟩]) (
p_faddr 4 x0 fun x229 =>
p_load1 x229 h220 fun x230 b231 =>
ifB (okAll (.rd b231) h220 h220 [⟨7, (.rd b228), h220, h220⟩, ⟨5, (.rd b225), h220, h220⟩]) (
p_gen (.build [vS, (vi 0), .nilSlice, (vi 0), (vi 0), vS, (vi 0), (vi 0), (vi 0), (vi 0), (.int .u64 (.ofNat 0)), .nilSlice] [(0, 1, (.t 52)), (1, 1, (.t 54))]) [(52, x227), (54, x230)] h220 fun x232 h233 k234 =>
ifB (okAll k234 h220 h233 [⟨5, (.rd b225), h220, h220⟩]) (
p_gen (.bslice 12 [vS, (vi 0), .nilSlice, (vi 0), (vi 0), vS, (vi 0), (vi 0), (vi 0), (vi 0), (.int .u64 (.ofNat 0)), .nilSlice] 1 [(0, 12, (.t 55))]) [(55, x232)] h233 fun x235 h236 k237 =>
ifB (okAll k237 h233 h236 [⟨5, (.rd b225), h220, h220⟩]) (
p_gen (.append 12 144 (.t 50) (.t 56)) [(50, x224), (56, x235)] h236 fun x238 h239 k240 =>
asNil (
p_faddr 0 (nthV A 0) fun x241 =>
p_faddr 4 x241 fun x242 =>
p_store 1 x242 x238 h239 fun h243 b244 =>
p_faddr 4 x0 fun x245 =>
p_load1 x245 h243 fun x246 b247 =>
p_bin .leq fiLeq x246 (vi 4) fun x248 =>
p_load1 (.ptr 7 0) h243 fun x249 b250 =>
p_faddr 1 x0 fun x251 =>
p_load1 x251 h243 fun x252 b253 =>
c 38 [x248, x249, x252] h243 (fun x256 h257 =>
j55 [] h257) kp) (nthV A 0)) false) false) false) false) (nthV A 0)) (nthV A 0)))))) fun l56 h57 =>
asNil (
p_faddr 7 (nthV A 0) fun x258 =>
p_load1 x258 h57 fun x259 b260 =>
p_bin .leq fiLeq x259 (vi 32) fun x261 =>
joinC (fun j262 => p_yes x261 (j262 (nthV A 0) h57 .free h57) (j262 undefA h57 .free h57)) fun x263 h264 k265 h266 =>
joinC (fun j267 => p_yes x261 (asNil (
j267 x263 h264 .free h264) x263) (j267 undefA h264 .free h264)) fun x268 h269 k270 h271 =>
joinC (fun j272 => p_yes x261 (p_faddr 0 x268 fun x277 =>
j272 x277 h269 .free h269) (j272 undefA h269 .free h269)) fun x273 h274 k275 h276 =>
joinC (fun j278 => p_yes x261 (p_faddr 0 x273 fun x283 =>
j278 x283 h274 .free h274) (j278 undefA h274 .free h274)) fun x279 h280 k281 h282 =>
joinC (fun j284 => p_yes x261 (p_load1 x279 h280 fun x289 b290 =>
j284 x289 h280 (.rd b290) h280) (j284 undefA h280 .free h280)) fun x285 h286 k287 h288 =>
joinC (fun j291 => p_yes x261 (p_lenL x285 fun x296 =>
j291 x296 h286 .free h286) (j291 undefA h286 .free h286)) fun x292 h293 k294 h295 =>
joinC (fun j297 => p_yes x261 (p_bin .leq fiLeq x292 (vi 128) fun x302 =>
j297 x302 h293 .free h293) (j297 undefA h293 .free h293)) fun x298 h299 k300 h301 =>
p_pick x261 x298 vF fun x303 =>
joinC (fun j304 => p_yes x303 (j304 (nthV A 0) h299 .free h299) (j304 undefA h299 .free h299)) fun x305 h306 k307 h308 =>
joinC (fun j309 => p_yes x303 (asNil (
j309 x305 h306 .free h306) x305) (j309 undefA h306 .free h306)) fun x310 h311 k312 h313 =>
joinC (fun j314 => p_yes x303 (p_faddr 0 x310 fun x319 =>
j314 x319 h311 .free h311) (j314 undefA h311 .free h311)) fun x315 h316 k317 h318 =>
joinC (fun j320 => p_yes x303 (p_faddr 4 x315 fun x325 =>
j320 x325 h316 .free h316) (j320 undefA h316 .free h316)) fun x321 h322 k323 h324 =>
joinC (fun j326 => p_yes x303 (p_load1 x321 h322 fun x331 b332 =>
j326 x331 h322 (.rd b332) h322) (j326 undefA h322 .free h322)) fun x327 h328 k329 h330 =>
joinC (fun j333 => p_yes x303 (p_lenL x327 fun x338 =>
j333 x338 h328 .free h328) (j333 undefA h328 .free h328)) fun x334 h335 k336 h337 =>
joinC (fun j339 => p_yes x303 (p_bin .leq fiLeq x334 (vi 16) fun x344 =>
j339 x344 h335 .free h335) (j339 undefA h335 .free h335)) fun x340 h341 k342 h343 =>
p_pick x303 x340 vF fun x345 =>
p_load1 (.ptr 7 0) h341 fun x346 b347 =>
ifB (okAll (.rd b347) h341 h341 [⟨19, k329, h330, h328⟩, ⟨10, k287, h288, h286⟩, ⟨3, (.rd b260), h57, h57⟩]) (
p_faddr 1 x0 fun x348 =>
p_load1 x348 h341 fun x349 b350 =>
ifB (okAll (.rd b350) h341 h341 [⟨23, (.rd b347), h341, h341⟩, ⟨19, k329, h330, h328⟩, ⟨10, k287, h288, h286⟩, ⟨3, (.rd b260), h57, h57⟩]) (
c 38 [x345, x346, x349] h341 (fun x353 h354 =>
asNil (
p_faddr 6 (nthV A 0) fun x355 =>
p_load1 x355 h354 fun x356 b357 =>
p_faddr 2 x0 fun x358 =>
p_load1 x358 h354 fun x359 b360 =>
ifB (okAll (.rd b360) h354 h354 [⟨3, (.rd b357), h354, h354⟩]) (
p_loadN 3 x34 h354 fun x361 b362 =>
ifB (okAll (.rd b362) h354 h354 [⟨5, (.rd b360), h354, h354⟩, ⟨3, (.rd b357), h354, h354⟩]) (
p_gen (.mapupd (.one .str) (.t 208) (.t 210) (.t 211)) [(208, x356), (210, x359), (211, x361)] h354 fun x363 h364 k365 =>
kr undefA h364) false) false) (nthV A 0)) kp) false) false) (nthV A 0)) (.ptr h32.n (nat_lit 0)) (alQ h32 (.cells .own (nat_lit 0) [(vi 0), (vi 0), (vi 0)]))) kp) false) false) false) (nthV A 0)) (.ptr h1.n (nat_lit 0)) (alQ h1 (.cells .own (nat_lit 0) [(vi 0), (vi 0), (vi 0)]))) false
noncomputable def h40 : FBody := fun c D k A h kr kp => ifB (Nat.beq (lenV A) 3) (
p_gen (.box (.t 2)) [(2, (nthV A 2))] h fun x0 h1 k2 =>
asNil (
p_faddr 8 (nthV A 0) fun x3 =>
p_store 1 x3 .nilSlice h1 fun h4 b5 =>
asNil (
p_faddr 9 (nthV A 0) fun x6 =>
p_store 1 x6 .nilSlice h4 fun h7 b8 =>
asNil (
p_faddr 10 (nthV A 0) fun x9 =>
p_store 1 x9 (vi 0) h7 fun h10 b11 =>
asNil (
p_faddr 0 (nthV A 0) fun x12 =>
p_faddr 4 x12 fun x13 =>
p_load1 x13 h10 fun x14 b15 =>
p_iaddr 12 x14 (nthV A 1) fun x16 =>
p_faddr 8 x0 fun x17 =>
p_load1 x17 h10 fun x18 b19 =>
p_faddr 4 x0 fun x20 =>
p_load1 x20 h10 fun x21 b22 =>
p_gen (.slc 9 (.t 26) none (some (.t 28)) none) [(26, x18), (28, x21)] h10 fun x23 h24 k25 =>
p_lenL x23 fun x26 =>
joinL (fun j27 =>
loopB k (fun r30 l31 h32 =>
p_bin .lss fiLss (nthV l31 0) x26 fun x33 =>
joinL (fun j34 => p_if x33 (
j34 [] h32) (j27 [] h32)) fun l35 h36 =>
joinL (fun j37 =>
p_iaddr 9 x23 (nthV l31 0) fun x40 =>
p_loadN 9 x40 h36 fun x41 b42 =>
(fun (x43 : AV) (h44 : AHeap) =>
p_store 9 x43 x41 h44 fun h45 b46 =>
p_faddr 2 x43 fun x47 =>
p_load1 x47 h45 fun x48 b49 =>
p_faddr 1 x43 fun x50 =>
p_load1 x50 h45 fun x51 b52 =>
c 74 [(nthV A 0), x48, x51] h45 (fun x55 h56 =>
asNil (
p_faddr 2 x16 fun x57 =>
p_load1 x57 h56 fun x58 b59 =>
p_faddr 3 x43 fun x60 =>
p_load1 x60 h56 fun x61 b62 =>
ifB (okAll (.rd b62) h56 h56 [⟨4, (.rd b59), h56, h56⟩]) (
p_gen (.bslice 1 [(vi 0)] 1 [(0, 1, (.t 47))]) [(47, x61)] h56 fun x63 h64 k65 =>
ifB (okAll k65 h56 h64 [⟨4, (.rd b59), h56, h56⟩]) (
p_gen (.append 1 8 (.t 45) (.t 48)) [(45, x58), (48, x63)] h64 fun x66 h67 k68 =>
asNil (
p_faddr 2 x16 fun x69 =>
p_store 1 x69 x66 h67 fun h70 b71 =>
j37 [] h70) x16) false) false) x16) kp) (.ptr h36.n (nat_lit 0)) (alQ h36 (.cells .own (nat_lit 0) [(vi 0), (vi 0), vS, (vi 0), (vi 0), (vi 0), (vi 0), (.int .u64 (.ofNat 0)), .nilSlice]))) fun l38 h39 =>
p_bin .add fiAdd (nthV l31 0) (vi 1) fun x72 =>
r30 [x72] h39) [(vi 0)] h24) fun l28 h29 =>
p_faddr 8 x0 fun x73 =>
p_load1 x73 h29 fun x74 b75 =>
p_faddr 4 x0 fun x76 =>
p_load1 x76 h29 fun x77 b78 =>
p_iaddr 9 x74 x77 fun x79 =>
p_loadN 9 x79 h29 fun x80 b81 =>
c 75 [(nthV A 0), x80] h29 (fun x84 h85 =>
asNil (
p_faddr 3 x16 fun x86 =>
p_store 9 x86 x84 h85 fun h87 b88 =>
asNil (
p_faddr 2 x16 fun x89 =>
p_load1 x89 h87 fun x90 b91 =>
asNil (
p_faddr 10 (nthV A 0) fun x92 =>
p_load1 x92 h87 fun x93 b94 =>
ifB (okAll (.rd b94) h87 h87 [⟨4, (.rd b91), h87, h87⟩]) (
p_faddr 4 x0 fun x95 =>
p_load1 x95 h87 fun x96 b97 =>
ifB (okAll (.rd b97) h87 h87 [⟨8, (.rd b94), h87, h87⟩, ⟨4, (.rd b91), h87, h87⟩]) (
p_bin .sub fiSub x93 x96 fun x98 =>
p_gen (.appendz 1 8 [(vi 0)] (.t 68) (.t 75)) [(68, x90), (75, x98)] h87 fun x99 h100 k101 =>
asNil (
p_faddr 2 x16 fun x102 =>
p_store 1 x102 x99 h100 fun h103 b104 =>
kr undefA h103) x16) false) false) (nthV A 0)) x16) x16) kp) (nthV A 0)) (nthV A 0)) (nthV A 0)) (nthV A 0)) false
noncomputable def h47 : FBody := fun c D k A h kr kp => ifB (Nat.beq (lenV A) 2) (
(fun (x0 : AV) (h1 : AHeap) =>
(fun (x2 : AV) (h3 : AHeap) =>
c 81 [(nthV A 0)] h3 (fun x6 h7 =>
p_ext x6 0 fun x8 =>
p_ext x6 1 fun x9 =>
p_store 2 x2 x9 h7 fun h10 b11 =>
p_faddr 0 x2 fun x12 =>
p_load1 x12 h10 fun x13 b14 =>
p_eqv true (.one .iface) x13 .nilIface fun x15 =>
joinL (fun j16 => p_if x15 (
p_loadN 9 x0 h10 fun x19 b20 =>
p_loadN 2 x2 h10 fun x21 b22 =>
ifB (okAll (.rd b22) h10 h10 [⟨0, (.rd b20), h10, h10⟩]) (
p_store 9 x0 x19 h10 fun h23 b24 =>
ifB (okAll (.wr b24) h10 h23 [⟨1, (.rd b22), h10, h10⟩]) (
p_store 2 x2 x21 h23 fun h25 b26 =>
p_loadN 9 x0 h25 fun x27 b28 => p_loadN 2 x2 h25 fun x29 b30 => kr (.tuple [x27, x29]) h25) false) false) (j16 [] h10)) fun l17 h18 =>
(fun (x31 : AV) => p_fn x31 fun g32 a33 b34 => (fun (l35 : List AV) =>
p_lenS (nthV A 0) fun x36 =>
p_gen (.build [.nilSlice, (vi 0), (vi 0)] [(0, 1, (.t 19)), (1, 1, (.t 21))]) [(19, x8), (21, x36)] h18 fun x37 h38 k39 =>
p_gen (.box (.t 22)) [(22, x37)] h38 fun x40 h41 k42 =>
p_fn (nthV A 1) fun g52 a53 b54 => c g52 (appL a53 (appL [x40] b54)) h41 (fun x50 h51 =>
p_store 9 x0 x50 h51 fun h55 b56 =>
asNil (
p_faddr 0 x40 fun x57 =>
p_load1 x57 h55 fun x58 b59 =>
p_lenL x58 fun x60 =>
p_bin .gtr fiGtr x60 (vi 0) fun x61 =>
joinL (fun j62 => p_if x61 (
c 83 [x40] h55 (fun x72 h73 =>
j62 [] h73) (fun p65 h66 => D g32 l35 (.pan p65) h66 fun h67 =>
p_loadN 9 x0 h67 fun x68 b69 => p_loadN 2 x2 h67 fun x70 b71 => kr (.tuple [x68, x70]) h67)) (j62 [] h55)) fun l63 h64 =>
p_loadN 9 x0 h64 fun x74 b75 =>
p_gen (.build [.nilIface, (vi 0)] []) [] h64 fun x76 h77 k78 =>
p_store 9 x0 x74 h77 fun h79 b80 =>
p_store 2 x2 x76 h79 fun h81 b82 =>
D g32 l35 .ret h81 fun h83 =>
p_loadN 9 x0 h83 fun x84 b85 => p_loadN 2 x2 h83 fun x86 b87 => kr (.tuple [x84, x86]) h83) x40) (fun p43 h44 => D g32 l35 (.pan p43) h44 fun h45 =>
p_loadN 9 x0 h45 fun x46 b47 => p_loadN 2 x2 h45 fun x48 b49 => kr (.tuple [x46, x48]) h45)) (appL a33 b34)) (.func (.func 82) [] [x0, x2])) kp) (.ptr h1.n (nat_lit 0)) (alQ h1 (.cells .own (nat_lit 0) [.nilIface, (vi 0)]))) (.ptr h.n (nat_lit 0)) (alQ h (.cells .own (nat_lit 0) [(vi 0), (vi 0), vS, (vi 0), (vi 0), (vi 0), (vi 0), (.int .u64 (.ofNat 0)), .nilSlice]))) false
noncomputable def h48 : FBody := fun c D k A h kr kp => ifB (Nat.beq (lenV A) 1) (
(fun (x0 : AV) (h1 : AHeap) =>
c 49 [(nthV A 0)] h1 (fun x4 h5 =>
p_fld x4 4 fun x6 =>
p_gen (.build [(vi 0), (vi 0), vS, (vi 0), (vi 0), (vi 0), (vi 0), (.int .u64 (.ofNat 0)), .nilSlice] [(0, 1, (.c (vi 1))), (1, 1, (.t 6))]) [(6, x6)] h5 fun x7 h8 k9 =>
(fun (x10 : AV) (h11 : AHeap) =>
p_store 9 x10 x7 h11 fun h12 b13 =>
joinL (fun j14 =>
loopB k (fun r17 l18 h19 =>
asNil (
p_faddr 0 (nthV A 0) fun x20 =>
p_load1 x20 h19 fun x21 b22 =>
p_lenL x21 fun x23 =>
p_bin .gtr fiGtr x23 (vi 0) fun x24 =>
joinL (fun j25 => p_if x24 (
j25 [] h19) (j14 [] h19)) fun l26 h27 =>
p_faddr 8 x10 fun x28 =>
p_load1 x28 h27 fun x29 b30 =>
c 50 [(nthV A 0)] h27 (fun x33 h34 =>
ifB (okAll .big h27 h34 [⟨1, (.rd b30), h27, h27⟩]) (
p_gen (.bslice 9 [(vi 0), (vi 0), vS, (vi 0), (vi 0), (vi 0), (vi 0), (.int .u64 (.ofNat 0)), .nilSlice] 1 [(0, 9, (.t 17))]) [(17, x33)] h34 fun x35 h36 k37 =>
ifB (okAll k37 h34 h36 [⟨1, (.rd b30), h27, h27⟩]) (
p_gen (.append 9 96 (.t 15) (.t 18)) [(15, x29), (18, x35)] h36 fun x38 h39 k40 =>
p_faddr 8 x10 fun x41 =>
p_store 1 x41 x38 h39 fun h42 b43 =>
r17 [] h42) false) false) (fun p31 h32 => ifB (okAll .big h27 h32 [⟨1, (.rd b30), h27, h27⟩]) (
kp p31 h32) false)) (nthV A 0)) [] h12) fun l15 h16 =>
p_loadN 9 x10 h16 fun x44 b45 =>
p_store 9 x0 x44 h16 fun h46 b47 =>
p_loadN 9 x0 h46 fun x48 b49 => kr x48 h46) (.ptr h8.n (nat_lit 0)) (alQ h8 (.cells .own (nat_lit 0) [(vi 0), (vi 0), vS, (vi 0), (vi 0), (vi 0), (vi 0), (.int .u64 (.ofNat 0)), .nilSlice]))) kp) (.ptr h.n (nat_lit 0)) (alQ h (.cells .own (nat_lit 0) [(vi 0), (vi 0), vS, (vi 0), (vi 0), (vi 0), (vi 0), (.int .u64 (.ofNat 0)), .nilSlice]))) false
noncomputable def h49 : FBody := fun c D k A h kr kp => ifB (Nat.beq (lenV A) 1) (
(fun (x0 : AV) (h1 : AHeap) =>
asNil (
p_faddr 0 (nthV A 0) fun x2 =>
p_load1 x2 h1 fun x3 b4 =>
p_lenL x3 fun x5 =>
p_eq x5 (vi 0) fun x6 =>
joinL (fun j7 => p_if x6 (
asNil (
p_faddr 1 (nthV A 0) fun x10 =>
p_load1 x10 h1 fun x11 b12 =>
p_gen (.build [(vi 0), vS, (vi 0), (.int .u64 (.ofNat 0)), (vi 0)] [(4, 1, (.t 12))]) [(12, x11)] h1 fun x13 h14 k15 =>
p_store 5 x0 x13 h14 fun h16 b17 =>
p_loadN 5 x0 h16 fun x18 b19 => kr x18 h16) (nthV A 0)) (j7 [] h1)) fun l8 h9 =>
asNil (
p_faddr 0 (nthV A 0) fun x20 =>
p_load1 x20 h9 fun x21 b22 =>
p_iaddr 5 x21 (vi 0) fun x23 =>
p_loadN 5 x23 h9 fun x24 b25 =>
p_store 5 x0 x24 h9 fun h26 b27 =>
p_loadN 5 x0 h26 fun x28 b29 => kr x28 h26) (nthV A 0)) (nthV A 0)) (.ptr h.n (nat_lit 0)) (alQ h (.cells .own (nat_lit 0) [(vi 0), vS, (vi 0), (.int .u64 (.ofNat 0)), (vi 0)]))) false
noncomputable def h50 : FBody := fun c D k A h kr kp => ifB (Nat.beq (lenV A) 1) (
(fun (x0 : AV) (h1 : AHeap) =>
c 49 [(nthV A 0)] h1 (fun x4 h5 =>
(fun (x6 : AV) (h7 : AHeap) =>
p_store 5 x6 x4 h7 fun h8 b9 =>
p_gen (.bslice 1 [vS, vS, vS, vS, vS] 5 [(0, 1, (.c (.str [118, 97, 114]))), (1, 1, (.c (.str [109, 117, 116, 101, 120]))), (2, 1, (.c (.str [99, 104, 97, 110]))), (3, 1, (.c (.str [97, 116, 111, 109, 105, 99]))), (4, 1, (.c (.str [102, 117, 110, 99])))]) [] h8 fun x10 h11 k12 =>
c 84 [(nthV A 0), x10] h11 (fun x15 h16 =>
p_not x15 fun x17 =>
joinL (fun j18 => p_if x17 (
c 83 [(nthV A 0)] h16 (fun x23 h24 =>
j18 [] h24) kp) (j18 [] h16)) fun l19 h20 =>
asNil (
p_faddr 0 (nthV A 0) fun x25 =>
p_load1 x25 h20 fun x26 b27 =>
p_gen (.slc 5 (.t 17) (some (.c (vi 1))) none none) [(17, x26)] h20 fun x28 h29 k30 =>
asNil (
p_faddr 0 (nthV A 0) fun x31 =>
p_store 1 x31 x28 h29 fun h32 b33 =>
(fun (x34 : AV) (h35 : AHeap) =>
p_faddr 4 x6 fun x36 =>
p_load1 x36 h35 fun x37 b38 =>
ifB (okAll (.rd b38) h35 h35 [⟨6, .new, h32, h35⟩]) (
c 85 [(nthV A 0), (vi 1)] h35 (fun x41 h42 =>
ifB (okAll .big h35 h42 [⟨1, (.rd b38), h35, h35⟩, ⟨6, .new, h32, h35⟩]) (
p_fld x41 1 fun x43 =>
p_gen (.build [(vi 0), (vi 0), vS, (vi 0), (vi 0), (vi 0), (vi 0), (.int .u64 (.ofNat 0)), .nilSlice] [(1, 1, (.t 22)), (2, 1, (.t 25))]) [(22, x37), (25, x43)] h42 fun x44 h45 k46 =>
ifB (okAll k46 h42 h45 [⟨6, .new, h32, h35⟩]) (
p_store 9 x34 x44 h45 fun h47 b48 =>
p_faddr 1 x6 fun x49 =>
p_load1 x49 h47 fun x50 b51 =>
joinL (fun j52 =>
p_eq x50 (.str [109, 117, 116, 101, 120]) fun x55 =>
p_if x55 (p_faddr 0 x34 fun x56 =>
p_store 1 x56 (vi 4) h47 fun h57 b58 =>
j52 [] h57) (p_eq x50 (.str [97, 116, 111, 109, 105, 99]) fun x59 =>
p_if x59 (p_faddr 0 x34 fun x60 =>
p_store 1 x60 (vi 6) h47 fun h61 b62 =>
j52 [] h61) (p_eq x50 (.str [99, 104, 97, 110]) fun x63 =>
p_if x63 (c 86 [(nthV A 0)] h47 (fun x66 h67 =>
p_faddr 0 x34 fun x68 =>
p_store 1 x68 (vi 5) h67 fun h69 b70 =>
p_faddr 4 x34 fun x71 =>
p_store 1 x71 x66 h69 fun h72 b73 =>
c 87 [(nthV A 0)] h72 (fun x76 h77 =>
p_faddr 3 x34 fun x78 =>
p_store 1 x78 x76 h77 fun h79 b80 =>
j52 [] h79) kp) kp) (p_eq x50 (.str [102, 117, 110, 99]) fun x81 =>
p_if x81 (p_faddr 0 x34 fun x82 =>
p_store 1 x82 (vi 7) h47 fun h83 b84 =>
c 88 [(nthV A 0), x34] h83 (fun x87 h88 =>
p_gen (.bslice 9 [(vi 0), (vi 0), vS, (vi 0), (vi 0), (vi 0), (vi 0), (.int .u64 (.ofNat 0)), .nilSlice] 1 [(0, 9, (.c (.agg [(vi 0), (vi 0), vS, (vi 0), (vi 0), (vi 0), (vi 0), (.int .u64 (.ofNat 0)), .nilSlice])))]) [] h88 fun x89 h90 k91 =>
p_faddr 8 x34 fun x92 =>
p_load1 x92 h90 fun x93 b94 =>
ifB (okAll (.rd b94) h90 h90 [⟨5, k91, h88, h90⟩]) (
c 89 [(nthV A 0)] h90 (fun x98 h99 =>
ifB (okAll .big h90 h99 [⟨1, (.rd b94), h90, h90⟩, ⟨5, k91, h88, h90⟩]) (
p_lenL x93 fun x100 =>
p_gen (.append 9 96 (.t 61) (.t 65)) [(61, x93), (65, x89)] h99 fun x101 h102 k103 =>
p_iaddr 9 x101 x100 fun x104 =>
p_store 9 x104 x98 h102 fun h105 b106 =>
p_faddr 8 x34 fun x107 =>
p_store 1 x107 x101 h105 fun h108 b109 =>
ifB (okAll (.wr b109) h105 h108 [⟨8, (.wr b106), h102, h105⟩]) (
p_loadN 9 x34 h108 fun x110 b111 =>
p_store 9 x0 x110 h108 fun h112 b113 =>
p_loadN 9 x0 h112 fun x114 b115 => kr x114 h112) false) false) (fun p95 h96 => ifB (okAll .big h90 h96 [⟨1, (.rd b94), h90, h90⟩, ⟨5, k91, h88, h90⟩]) (
p_lenL x93 fun x97 =>
kp p95 h96) false)) false) kp) (p_faddr 0 x34 fun x116 =>
p_store 1 x116 (vi 2) h47 fun h117 b118 =>
p_gen (.bslice 1 [vS] 1 [(0, 1, (.c (.str [91])))]) [] h117 fun x119 h120 k121 =>
c 84 [(nthV A 0), x119] h120 (fun x124 h125 =>
joinL (fun j126 => p_if x124 (
c 86 [(nthV A 0)] h125 (fun x131 h132 =>
p_faddr 0 x34 fun x133 =>
p_store 1 x133 (vi 3) h132 fun h134 b135 =>
p_faddr 4 x34 fun x136 =>
p_store 1 x136 x131 h134 fun h137 b138 =>
j126 [] h137) kp) (j126 [] h125)) fun l127 h128 =>
c 87 [(nthV A 0)] h128 (fun x141 h142 =>
p_faddr 3 x34 fun x143 =>
p_store 1 x143 x141 h142 fun h144 b145 =>
j52 [] h144) kp) kp))))) fun l53 h54 =>
c 90 [(nthV A 0), (.str [59])] h54 (fun x148 h149 =>
p_loadN 9 x34 h149 fun x150 b151 =>
p_store 9 x0 x150 h149 fun h152 b153 =>
p_loadN 9 x0 h152 fun x154 b155 => kr x154 h152) kp) false) false) (fun p39 h40 => ifB (okAll .big h35 h40 [⟨1, (.rd b38), h35, h35⟩, ⟨6, .new, h32, h35⟩]) (
kp p39 h40) false)) false) (.ptr h32.n (nat_lit 0)) (alQ h32 (.cells .own (nat_lit 0) [(vi 0), (vi 0), vS, (vi 0), (vi 0), (vi 0), (vi 0), (.int .u64 (.ofNat 0)), .nilSlice]))) (nthV A 0)) (nthV A 0)) kp) (.ptr h5.n (nat_lit 0)) (alQ h5 (.cells .own (nat_lit 0) [(vi 0), vS, (vi 0), (.int .u64 (.ofNat 0)), (vi 0)]))) kp) (.ptr h.n (nat_lit 0)) (alQ h (.cells .own (nat_lit 0) [(vi 0), (vi 0), vS, (vi 0), (vi 0), (vi 0), (vi 0), (.int .u64 (.ofNat 0)), .nilSlice]))) false
noncomputable def h51 : FBody := fun c D k A h kr kp => ifB (Nat.beq (lenV A) 1) (
p_gen (.box (.t 0)) [(0, (nthV A 0))] h fun x0 h1 k2 =>
(fun (x3 : AV) (h4 : AHeap) =>
(fun (x5 : AV) (h6 : AHeap) =>
p_loadN 6 x0 h6 fun x7 b8 =>
c 35 [x7] h6 (fun x11 h12 =>
p_eqv true (.one .iface) x11 .nilIface fun x13 =>
joinL (fun j14 => p_if x13 (
p_loadN 6 x3 h12 fun x17 b18 =>
p_gen (.build [.nilIface, (vi 0)] [(0, 1, (.t 13))]) [(13, x11)] h12 fun x19 h20 k21 =>
p_store 6 x3 x17 h20 fun h22 b23 =>
p_store 2 x5 x19 h22 fun h24 b25 =>
p_loadN 6 x3 h24 fun x26 b27 => p_loadN 2 x5 h24 fun x28 b29 => kr (.tuple [x26, x28]) h24) (j14 [] h12)) fun l15 h16 =>
(fun (x30 : AV) => p_fn x30 fun g31 a32 b33 => (fun (l34 : List AV) =>
p_loadN 6 x0 h16 fun x35 b36 =>
p_store 6 x3 x35 h16 fun h37 b38 =>
p_faddr 0 x0 fun x39 =>
p_load1 x39 h37 fun x40 b41 =>
c 92 [x40] h37 (fun x55 h56 =>
p_faddr 3 x0 fun x57 =>
p_load1 x57 h56 fun x58 b59 =>
ifB (okAll (.rd b59) h56 h56 [⟨2, .big, h37, h56⟩, ⟨1, (.rd b41), h37, h37⟩]) (
c 93 [x58] h56 (fun x71 h72 =>
p_faddr 4 x0 fun x73 =>
p_load1 x73 h72 fun x74 b75 =>
ifB (okAll (.rd b75) h72 h72 [⟨5, .big, h56, h72⟩, ⟨4, (.rd b59), h56, h56⟩, ⟨2, .big, h37, h56⟩, ⟨1, (.rd b41), h37, h37⟩]) (
c 94 [x74] h72 (fun x84 h85 =>
p_faddr 0 x3 fun x86 =>
p_store 1 x86 x55 h85 fun h87 b88 =>
p_faddr 3 x3 fun x89 =>
p_store 1 x89 x71 h87 fun h90 b91 =>
p_faddr 4 x3 fun x92 =>
p_store 1 x92 x84 h90 fun h93 b94 =>
p_faddr 4 x0 fun x95 =>
p_load1 x95 h93 fun x96 b97 =>
p_lenL x96 fun x98 =>
joinL (fun j99 =>
loopB k (fun r102 l103 h104 =>
p_bin .lss fiLss (nthV l103 0) x98 fun x105 =>
joinL (fun j106 => p_if x105 (
j106 [] h104) (j99 [] h104)) fun l107 h108 =>
joinL (fun j109 =>
p_iaddr 12 x96 (nthV l103 0) fun x112 =>
p_loadN 12 x112 h108 fun x113 b114 =>
(fun (x115 : AV) (h116 : AHeap) =>
p_store 12 x115 x113 h116 fun h117 b118 =>
p_loadN 6 x0 h117 fun x119 b120 =>
p_faddr 2 x115 fun x121 =>
p_load1 x121 h117 fun x122 b123 =>
ifB (okAll (.rd b123) h117 h117 [⟨0, (.rd b120), h117, h117⟩]) (
p_lenL x122 fun x124 =>
p_gen (.mkslice 1 8 [(vi 0)] (.t 40) (.t 40)) [(40, x124), (40, x124)] h117 fun x125 h126 k127 =>
ifB (okAll k127 h117 h126 [⟨0, (.rd b120), h117, h117⟩]) (
p_gen (.build [.nilSlice, (vi 0), (vi 0), .nilSlice, .nilSlice, (vi 0), .nilSlice] [(0, 6, (.t 37)), (6, 1, (.t 41))]) [(37, x119), (41, x125)] h126 fun x128 h129 k130 =>
p_gen (.box (.t 42)) [(42, x128)] h129 fun x131 h132 k133 =>
asNil (
p_faddr 6 x131 fun x134 =>
p_load1 x134 h132 fun x135 b136 =>
p_faddr 2 x115 fun x137 =>
p_load1 x137 h132 fun x138 b139 =>
ifB (okAll (.rd b139) h132 h132 [⟨3, (.rd b136), h132, h132⟩]) (
p_faddr 1 x115 fun x140 =>
p_load1 x140 h132 fun x141 b142 =>
ifB (okAll (.rd b142) h132 h132 [⟨5, (.rd b139), h132, h132⟩, ⟨3, (.rd b136), h132, h132⟩]) (
p_gen (.slc 1 (.t 49) none (some (.t 51)) none) [(49, x138), (51, x141)] h132 fun x143 h144 k145 =>
ifB (okAll k145 h132 h144 [⟨3, (.rd b136), h132, h132⟩]) (
p_gen (.copy 1 (.t 47) (.t 52)) [(47, x135), (52, x143)] h144 fun x146 h147 k148 =>
p_faddr 3 x115 fun x149 =>
p_loadN 9 x149 h147 fun x150 b151 =>
c 95 [x131, x150] h147 (fun x159 h160 =>
p_faddr 3 x115 fun x161 =>
p_store 9 x161 x159 h160 fun h162 b163 =>
asNil (
p_faddr 6 x131 fun x164 =>
p_load1 x164 h162 fun x165 b166 =>
p_faddr 2 x115 fun x167 =>
p_store 1 x167 x165 h162 fun h168 b169 =>
p_faddr 4 x3 fun x170 =>
p_load1 x170 h168 fun x171 b172 =>
p_loadN 12 x115 h168 fun x173 b174 =>
p_iaddr 12 x171 (nthV l103 0) fun x175 =>
p_store 12 x175 x173 h168 fun h176 b177 =>
j109 [] h176) x131) (fun p152 h153 => D g31 l34 (.pan p152) h153 fun h154 =>
p_loadN 6 x3 h154 fun x155 b156 => p_loadN 2 x5 h154 fun x157 b158 => kr (.tuple [x155, x157]) h154)) false) false) false) x131) false) false) (.ptr h108.n (nat_lit 0)) (alQ h108 (.cells .own (nat_lit 0) [vS, (vi 0), .nilSlice, (vi 0), (vi 0), vS, (vi 0), (vi 0), (vi 0), (vi 0), (.int .u64 (.ofNat 0)), .nilSlice]))) fun l110 h111 =>
p_bin .add fiAdd (nthV l103 0) (vi 1) fun x178 =>
r102 [x178] h111) [(vi 0)] h93) fun l100 h101 =>
p_loadN 6 x3 h101 fun x179 b180 =>
p_gen (.build [.nilIface, (vi 0)] []) [] h101 fun x181 h182 k183 =>
p_store 6 x3 x179 h182 fun h184 b185 =>
p_store 2 x5 x181 h184 fun h186 b187 =>
D g31 l34 .ret h186 fun h188 =>
p_loadN 6 x3 h188 fun x189 b190 => p_loadN 2 x5 h188 fun x191 b192 => kr (.tuple [x189, x191]) h188) (fun p76 h77 => p_faddr 0 x3 fun x78 =>
D g31 l34 (.pan p76) h77 fun h79 =>
p_loadN 6 x3 h79 fun x80 b81 => p_loadN 2 x5 h79 fun x82 b83 => kr (.tuple [x80, x82]) h79)) false) (fun p60 h61 => p_faddr 4 x0 fun x62 =>
p_load1 x62 h61 fun x63 b64 =>
ifB (okAll (.rd b64) h61 h61 [⟨5, .big, h56, h61⟩, ⟨4, (.rd b59), h56, h56⟩, ⟨2, .big, h37, h56⟩, ⟨1, (.rd b41), h37, h37⟩]) (
p_faddr 0 x3 fun x65 =>
D g31 l34 (.pan p60) h61 fun h66 =>
p_loadN 6 x3 h66 fun x67 b68 => p_loadN 2 x5 h66 fun x69 b70 => kr (.tuple [x67, x69]) h66) false)) false) (fun p42 h43 => p_faddr 3 x0 fun x44 =>
p_load1 x44 h43 fun x45 b46 =>
ifB (okAll (.rd b46) h43 h43 [⟨2, .big, h37, h43⟩, ⟨1, (.rd b41), h37, h37⟩]) (
p_faddr 4 x0 fun x47 =>
p_load1 x47 h43 fun x48 b49 =>
ifB (okAll (.rd b49) h43 h43 [⟨4, (.rd b46), h43, h43⟩, ⟨2, .big, h37, h43⟩, ⟨1, (.rd b41), h37, h37⟩]) (
D g31 l34 (.pan p42) h43 fun h50 =>
p_loadN 6 x3 h50 fun x51 b52 => p_loadN 2 x5 h50 fun x53 b54 => kr (.tuple [x51, x53]) h50) false) false)) (appL a32 b33)) (.func (.func 91) [] [x3, x5])) kp) (.ptr h4.n (nat_lit 0)) (alQ h4 (.cells .own (nat_lit 0) [.nilIface, (vi 0)]))) (.ptr h1.n (nat_lit 0)) (alQ h1 (.cells .own (nat_lit 0) [.nilSlice, (vi 0), (vi 0), .nilSlice, .nilSlice, (vi 0)]))) false
noncomputable def h54 : FBody := fun c D k A h kr kp => ifB (Nat.beq (lenV A) 1) (
(fun (x0 : AV) (h1 : AHeap) =>
(fun (x2 : AV) => p_fn x2 fun g3 a4 b5 => (fun (l6 : List AV) =>
p_gen (.build [] []) [] h1 fun x7 h8 k9 =>
p_fn (nthV A 0) fun g17 a18 b19 => c g17 (appL a18 (appL [x7] b19)) h8 (fun x15 h16 =>
p_store 1 x0 .nilIface h16 fun h20 b21 =>
D g3 l6 .ret h20 fun h22 =>
p_load1 x0 h22 fun x23 b24 => kr x23 h22) (fun p10 h11 => D g3 l6 (.pan p10) h11 fun h12 =>
p_load1 x0 h12 fun x13 b14 => kr x13 h12)) (appL a4 b5)) (.func (.func 97) [] [x0])) (.ptr h.n (nat_lit 0)) (alQ h (.cells .own (nat_lit 0) [.nilIface]))) false
noncomputable def h55 : FBody := fun c D k A h kr kp => ifB (Nat.beq (lenV A) 2) (
p_gen (.box (.t 0)) [(0, (nthV A 0))] h fun x0 h1 k2 =>
p_loadN 0 x0 h1 fun x3 b4 =>
p_loadN 9 (nthV A 1) h1 fun x5 b6 =>
c 56 [x3, x5] h1 (fun x9 h10 =>
kr undefA h10) kp) false
noncomputable def h56 : FBody := fun c D k A h kr kp => ifB (Nat.beq (lenV A) 2) (
p_gen (.box (.t 0)) [(0, (nthV A 0))] h fun x0 h1 k2 =>
p_gen (.box (.t 1)) [(1, (nthV A 1))] h1 fun x3 h4 k5 =>
p_loadN 0 x0 h4 fun x6 b7 =>
p_faddr 0 x3 fun x8 =>
p_load1 x8 h4 fun x9 b10 =>
p_eq x9 (vi 1) fun x11 =>
c 98 [x6, x11] h4 (fun x14 h15 =>
p_loadN 0 x0 h15 fun x16 b17 =>
p_loadN 9 x3 h15 fun x18 b19 =>
p_gen (.build [(vi 0), (vi 0), vS, (vi 0), (vi 0), (vi 0), (vi 0), (.int .u64 (.ofNat 0)), .nilSlice] []) [] h15 fun x20 h21 k22 =>
c 99 [x16, x18, x20] h21 (fun x25 h26 =>
p_faddr 8 x3 fun x27 =>
p_load1 x27 h26 fun x28 b29 =>
p_lenL x28 fun x30 =>
loopB k (fun r31 l32 h33 =>
p_bin .lss fiLss (nthV l32 0) x30 fun x34 =>
joinL (fun j35 => p_if x34 (
j35 [] h33) (kr undefA h33)) fun l36 h37 =>
joinL (fun j38 =>
p_iaddr 9 x28 (nthV l32 0) fun x41 =>
p_loadN 9 x41 h37 fun x42 b43 =>
(fun (x44 : AV) (h45 : AHeap) =>
p_store 9 x44 x42 h45 fun h46 b47 =>
p_loadN 0 x0 h46 fun x48 b49 =>
p_loadN 9 x44 h46 fun x50 b51 =>
c 100 [x48, x50] h46 (fun x54 h55 =>
j38 [] h55) kp) (.ptr h37.n (nat_lit 0)) (alQ h37 (.cells .own (nat_lit 0) [(vi 0), (vi 0), vS, (vi 0), (vi 0), (vi 0), (vi 0), (.int .u64 (.ofNat 0)), .nilSlice]))) fun l39 h40 =>
p_bin .add fiAdd (nthV l32 0) (vi 1) fun x56 =>
r31 [x56] h40) [(vi 0)] h26) kp) kp) false
noncomputable def h68 : FBody := fun c D k A h kr kp => ifB (Nat.beq (lenV A) 2) (
p_gen (.box (.t 0)) [(0, (nthV A 0))] h fun x0 h1 k2 =>
p_gen (.box (.t 1)) [(1, (nthV A 1))] h1 fun x3 h4 k5 =>
p_gen (.build [(vi 0), (vi 0), vS, (vi 0), (vi 0), (vi 0), (vi 0), (.int .u64 (.ofNat 0)), .nilSlice] []) [] h4 fun x6 h7 k8 =>
(fun (x9 : AV) (h10 : AHeap) =>
p_store 9 x9 x6 h10 fun h11 b12 =>
p_faddr 0 x3 fun x13 =>
p_load1 x13 h11 fun x14 b15 =>
joinL (fun j16 =>
p_eq x14 (vi 25) fun x19 =>
p_if x19 (p_loadN 0 x0 h11 fun x20 b21 =>
p_faddr 4 x3 fun x22 =>
p_load1 x22 h11 fun x23 b24 =>
p_bin .geq fiGeq x23 (vi 0) fun x25 =>
c 98 [x20, x25] h11 (fun x28 h29 =>
p_faddr 4 x3 fun x30 =>
p_load1 x30 h29 fun x31 b32 =>
p_faddr 4 x9 fun x33 =>
p_store 1 x33 x31 h29 fun h34 b35 =>
j16 [(vi 0)] h34) kp) (p_eq x14 (vi 26) fun x36 =>
p_if x36 (p_faddr 7 x3 fun x37 =>
p_load1 x37 h11 fun x38 b39 =>
p_faddr 7 x9 fun x40 =>
p_store 1 x40 x38 h11 fun h41 b42 =>
j16 [(vi 0)] h41) (p_eq x14 (vi 27) fun x43 =>
p_if x43 (p_loadN 0 x0 h11 fun x44 b45 =>
p_faddr 4 x3 fun x46 =>
p_load1 x46 h11 fun x47 b48 =>
p_eq x47 (vi 0) fun x49 =>
joinV (fun j50 => p_no x49 (p_faddr 4 x3 fun x53 =>
j50 x53 h11) (j50 undefA h11)) fun x51 h52 =>
joinV (fun j54 => p_no x49 (p_load1 x51 h52 fun x57 b58 =>
j54 x57 h52) (j54 undefA h52)) fun x55 h56 =>
joinV (fun j59 => p_no x49 (p_eq x55 (vi 1) fun x62 =>
j59 x62 h56) (j59 undefA h56)) fun x60 h61 =>
p_pick x49 vT x60 fun x63 =>
c 98 [x44, x63] h61 (fun x66 h67 =>
p_faddr 4 x3 fun x68 =>
p_load1 x68 h67 fun x69 b70 =>
p_faddr 4 x9 fun x71 =>
p_store 1 x71 x69 h67 fun h72 b73 =>
j16 [(vi 0)] h72) kp) (p_eq x14 (vi 28) fun x74 =>
joinL (fun j75 => p_if x74 (
j75 [x74] h11) (p_eq x14 (vi 29) fun x78 =>
j75 [x78] h11)) fun l76 h77 =>
p_if (nthV l76 0) (p_loadN 0 x0 h77 fun x79 b80 =>
p_faddr 2 x3 fun x81 =>
p_load1 x81 h77 fun x82 b83 =>
c 108 [x79, x82] h77 (fun x86 h87 =>
p_faddr 2 x3 fun x88 =>
p_load1 x88 h87 fun x89 b90 =>
p_faddr 2 x9 fun x91 =>
p_store 1 x91 x89 h87 fun h92 b93 =>
p_faddr 0 x3 fun x94 =>
p_load1 x94 h92 fun x95 b96 =>
p_bin .sub fiSub x95 (vi 28) fun x97 =>
j16 [x97] h92) kp) (p_eq x14 (vi 30) fun x98 =>
p_if x98 (p_loadN 0 x0 h77 fun x99 b100 =>
p_faddr 2 x3 fun x101 =>
p_load1 x101 h77 fun x102 b103 =>
p_eq x102 (.str [45]) fun x104 =>
joinV (fun j105 => p_no x104 (p_faddr 2 x3 fun x108 =>
j105 x108 h77) (j105 undefA h77)) fun x106 h107 =>
joinV (fun j109 => p_no x104 (p_load1 x106 h107 fun x112 b113 =>
j109 x112 h107) (j109 undefA h107)) fun x110 h111 =>
joinV (fun j114 => p_no x104 (p_eq x110 (.str [33]) fun x117 =>
j114 x117 h111) (j114 undefA h111)) fun x115 h116 =>
p_pick x104 vT x115 fun x118 =>
joinV (fun j119 => p_no x118 (p_faddr 2 x3 fun x122 =>
j119 x122 h116) (j119 undefA h116)) fun x120 h121 =>
joinV (fun j123 => p_no x118 (p_load1 x120 h121 fun x126 b127 =>
j123 x126 h121) (j123 undefA h121)) fun x124 h125 =>
joinV (fun j128 => p_no x118 (p_eq x124 (.str [105, 110, 116]) fun x131 =>
j128 x131 h125) (j128 undefA h125)) fun x129 h130 =>
p_pick x118 vT x129 fun x132 =>
joinV (fun j133 => p_no x132 (p_faddr 2 x3 fun x136 =>
j133 x136 h130) (j133 undefA h130)) fun x134 h135 =>
joinV (fun j137 => p_no x132 (p_load1 x134 h135 fun x140 b141 =>
j137 x140 h135) (j137 undefA h135)) fun x138 h139 =>
joinV (fun j142 => p_no x132 (p_eq x138 (.str [102, 108, 111, 97, 116]) fun x145 =>
j142 x145 h139) (j142 undefA h139)) fun x143 h144 =>
p_pick x132 vT x143 fun x146 =>
c 98 [x99, x146] h144 (fun x149 h150 =>
p_faddr 2 x3 fun x151 =>
p_load1 x151 h150 fun x152 b153 =>
p_faddr 2 x9 fun x154 =>
p_store 1 x154 x152 h150 fun h155 b156 =>
j16 [(vi 1)] h155) kp) (p_eq x14 (vi 31) fun x157 =>
p_if x157 (p_loadN 0 x0 h77 fun x158 b159 =>
p_faddr 2 x3 fun x160 =>
p_load1 x160 h77 fun x161 b162 =>
ifB (okAll (.rd b162) h77 h77 [⟨0, (.rd b159), h77, h77⟩]) (
c 109 [x161] h77 (fun x165 h166 =>
ifB (okAll .big h77 h166 [⟨0, (.rd b159), h77, h77⟩]) (
p_bin .gtr fiGtr x165 (vi 0) fun x167 =>
c 98 [x158, x167] h166 (fun x170 h171 =>
p_faddr 2 x3 fun x172 =>
p_load1 x172 h171 fun x173 b174 =>
p_faddr 2 x9 fun x175 =>
p_store 1 x175 x173 h171 fun h176 b177 =>
j16 [(vi 2)] h176) kp) false) (fun p163 h164 => ifB (okAll .big h77 h164 [⟨0, (.rd b159), h77, h77⟩]) (
kp p163 h164) false)) false) (p_loadN 0 x0 h77 fun x178 b179 =>
c 98 [x178, vF] h77 (fun x182 h183 =>
j16 [(vi 0)] h183) kp))))))) fun l17 h18 =>
p_loadN 0 x0 h18 fun x184 b185 =>
p_loadN 9 x3 h18 fun x186 b187 =>
p_loadN 9 x9 h18 fun x188 b189 =>
c 99 [x184, x186, x188] h18 (fun x192 h193 =>
p_loadN 0 x0 h193 fun x194 b195 =>
p_faddr 8 x3 fun x196 =>
p_load1 x196 h193 fun x197 b198 =>
p_lenL x197 fun x199 =>
p_eq x199 (nthV l17 0) fun x200 =>
c 98 [x194, x200] h193 (fun x203 h204 =>
p_faddr 8 x3 fun x205 =>
p_load1 x205 h204 fun x206 b207 =>
p_lenL x206 fun x208 =>
loopB k (fun r209 l210 h211 =>
p_bin .lss fiLss (nthV l210 0) x208 fun x212 =>
joinL (fun j213 => p_if x212 (
j213 [] h211) (kr undefA h211)) fun l214 h215 =>
joinL (fun j216 =>
p_iaddr 9 x206 (nthV l210 0) fun x219 =>
p_loadN 9 x219 h215 fun x220 b221 =>
(fun (x222 : AV) (h223 : AHeap) =>
p_store 9 x222 x220 h223 fun h224 b225 =>
p_loadN 0 x0 h224 fun x226 b227 =>
p_loadN 9 x222 h224 fun x228 b229 =>
c 68 [x226, x228] h224 (fun x232 h233 =>
j216 [] h233) kp) (.ptr h215.n (nat_lit 0)) (alQ h215 (.cells .own (nat_lit 0) [(vi 0), (vi 0), vS, (vi 0), (vi 0), (vi 0), (vi 0), (.int .u64 (.ofNat 0)), .nilSlice]))) fun l217 h218 =>
p_bin .add fiAdd (nthV l210 0) (vi 1) fun x234 =>
r209 [x234] h218) [(vi 0)] h204) kp) kp) (.ptr h7.n (nat_lit 0)) (alQ h7 (.cells .own (nat_lit 0) [(vi 0), (vi 0), vS, (vi 0), (vi 0), (vi 0), (vi 0), (.int .u64 (.ofNat 0)), .nilSlice]))) false
noncomputable def h71 : FBody := fun c D k A h kr kp => ifB (Nat.beq (lenV A) 1) (
asNil (
p_faddr 0 (nthV A 0) fun x0 =>
p_faddr 0 x0 fun x1 =>
p_load1 x1 h fun x2 b3 =>
p_lenL x2 fun x4 =>
p_bin .leq fiLeq x4 (vi 128) fun x5 =>
joinV (fun j6 => p_yes x5 (j6 (nthV A 0) h) (j6 undefA h)) fun x7 h8 =>
joinV (fun j9 => p_yes x5 (asNil (
j9 x7 h8) x7) (j9 undefA h8)) fun x10 h11 =>
joinV (fun j12 => p_yes x5 (p_faddr 0 x10 fun x15 =>
j12 x15 h11) (j12 undefA h11)) fun x13 h14 =>
joinV (fun j16 => p_yes x5 (p_faddr 0 x13 fun x19 =>
j16 x19 h14) (j16 undefA h14)) fun x17 h18 =>
joinV (fun j20 => p_yes x5 (p_load1 x17 h18 fun x23 b24 =>
j20 x23 h18) (j20 undefA h18)) fun x21 h22 =>
joinV (fun j25 => p_yes x5 (c 115 [x21, (.func (.func 116) [] [])] h22 (fun x30 h31 =>
j25 x30 h31) kp) (j25 undefA h22)) fun x26 h27 =>
joinV (fun j32 => p_yes x5 (p_not x26 fun x35 =>
j32 x35 h27) (j32 undefA h27)) fun x33 h34 =>
p_pick x5 x33 vF fun x36 =>
c 114 [x36] h34 (fun x39 h40 =>
asNil (
p_faddr 0 (nthV A 0) fun x41 =>
p_faddr 1 x41 fun x42 =>
p_load1 x42 h40 fun x43 b44 =>
p_bin .geq fiGeq x43 (vi 0) fun x45 =>
joinC (fun j46 => p_yes x45 (j46 (nthV A 0) h40 .free h40) (j46 undefA h40 .free h40)) fun x47 h48 k49 h50 =>
joinC (fun j51 => p_yes x45 (asNil (
j51 x47 h48 .free h48) x47) (j51 undefA h48 .free h48)) fun x52 h53 k54 h55 =>
joinC (fun j56 => p_yes x45 (p_faddr 0 x52 fun x61 =>
j56 x61 h53 .free h53) (j56 undefA h53 .free h53)) fun x57 h58 k59 h60 =>
joinC (fun j62 => p_yes x45 (p_faddr 1 x57 fun x67 =>
j62 x67 h58 .free h58) (j62 undefA h58 .free h58)) fun x63 h64 k65 h66 =>
joinC (fun j68 => p_yes x45 (p_load1 x63 h64 fun x73 b74 =>
j68 x73 h64 (.rd b74) h64) (j68 undefA h64 .free h64)) fun x69 h70 k71 h72 =>
joinC (fun j75 => p_yes x45 (p_bin .leq fiLeq x69 (vi 32) fun x80 =>
j75 x80 h70 .free h70) (j75 undefA h70 .free h70)) fun x76 h77 k78 h79 =>
p_pick x45 x76 vF fun x81 =>
joinC (fun j82 => p_yes x81 (j82 (nthV A 0) h77 .free h77) (j82 undefA h77 .free h77)) fun x83 h84 k85 h86 =>
joinC (fun j87 => p_yes x81 (asNil (
j87 x83 h84 .free h84) x83) (j87 undefA h84 .free h84)) fun x88 h89 k90 h91 =>
joinC (fun j92 => p_yes x81 (p_faddr 0 x88 fun x97 =>
j92 x97 h89 .free h89) (j92 undefA h89 .free h89)) fun x93 h94 k95 h96 =>
joinC (fun j98 => p_yes x81 (p_faddr 2 x93 fun x103 =>
j98 x103 h94 .free h94) (j98 undefA h94 .free h94)) fun x99 h100 k101 h102 =>
joinC (fun j104 => p_yes x81 (p_load1 x99 h100 fun x109 b110 =>
j104 x109 h100 (.rd b110) h100) (j104 undefA h100 .free h100)) fun x105 h106 k107 h108 =>
joinC (fun j111 => p_yes x81 (p_bin .geq fiGeq x105 (vi 0) fun x116 =>
j111 x116 h106 .free h106) (j111 undefA h106 .free h106)) fun x112 h113 k114 h115 =>
p_pick x81 x112 vF fun x117 =>
joinC (fun j118 => p_yes x117 (j118 (nthV A 0) h113 .free h113) (j118 undefA h113 .free h113)) fun x119 h120 k121 h122 =>
joinC (fun j123 => p_yes x117 (asNil (
j123 x119 h120 .free h120) x119) (j123 undefA h120 .free h120)) fun x124 h125 k126 h127 =>
joinC (fun j128 => p_yes x117 (p_faddr 0 x124 fun x133 =>
j128 x133 h125 .free h125) (j128 undefA h125 .free h125)) fun x129 h130 k131 h132 =>
joinC (fun j134 => p_yes x117 (p_faddr 2 x129 fun x139 =>
j134 x139 h130 .free h130) (j134 undefA h130 .free h130)) fun x135 h136 k137 h138 =>
joinC (fun j140 => p_yes x117 (p_load1 x135 h136 fun x145 b146 =>
j140 x145 h136 (.rd b146) h136) (j140 undefA h136 .free h136)) fun x141 h142 k143 h144 =>
joinC (fun j147 => p_yes x117 (p_bin .leq fiLeq x141 (vi 32) fun x152 =>
j147 x152 h142 .free h142) (j147 undefA h142 .free h142)) fun x148 h149 k150 h151 =>
p_pick x117 x148 vF fun x153 =>
joinC (fun j154 => p_yes x153 (j154 (nthV A 0) h149 .free h149) (j154 undefA h149 .free h149)) fun x155 h156 k157 h158 =>
joinC (fun j159 => p_yes x153 (asNil (
j159 x155 h156 .free h156) x155) (j159 undefA h156 .free h156)) fun x160 h161 k162 h163 =>
joinC (fun j164 => p_yes x153 (p_faddr 0 x160 fun x169 =>
j164 x169 h161 .free h161) (j164 undefA h161 .free h161)) fun x165 h166 k167 h168 =>
joinC (fun j170 => p_yes x153 (p_faddr 1 x165 fun x175 =>
j170 x175 h166 .free h166) (j170 undefA h166 .free h166)) fun x171 h172 k173 h174 =>
joinC (fun j176 => p_yes x153 (p_load1 x171 h172 fun x181 b182 =>
j176 x181 h172 (.rd b182) h172) (j176 undefA h172 .free h172)) fun x177 h178 k179 h180 =>
joinC (fun j183 => p_yes x153 (j183 (nthV A 0) h178 .free h178) (j183 undefA h178 .free h178)) fun x184 h185 k186 h187 =>
joinC (fun j188 => p_yes x153 (asNil (
j188 x184 h185 .free h185) x184) (j188 undefA h185 .free h185)) fun x189 h190 k191 h192 =>
joinC (fun j193 => p_yes x153 (p_faddr 0 x189 fun x198 =>
j193 x198 h190 .free h190) (j193 undefA h190 .free h190)) fun x194 h195 k196 h197 =>
joinC (fun j199 => p_yes x153 (p_faddr 2 x194 fun x204 =>
j199 x204 h195 .free h195) (j199 undefA h195 .free h195)) fun x200 h201 k202 h203 =>
joinC (fun j205 => p_yes x153 (p_load1 x200 h201 fun x210 b211 =>
ifB (okAll (.rd b211) h201 h201 [⟨35, k179, h180, h178⟩]) (
j205 x210 h201 (.rd b211) h201) false) (j205 undefA h201 .free h201)) fun x206 h207 k208 h209 =>
joinC (fun j212 => p_yes x153 (p_bin .add fiAdd x177 x206 fun x217 =>
j212 x217 h207 .free h207) (j212 undefA h207 .free h207)) fun x213 h214 k215 h216 =>
joinC (fun j218 => p_yes x153 (j218 (nthV A 0) h214 .free h214) (j218 undefA h214 .free h214)) fun x219 h220 k221 h222 =>
joinC (fun j223 => p_yes x153 (asNil (
j223 x219 h220 .free h220) x219) (j223 undefA h220 .free h220)) fun x224 h225 k226 h227 =>
joinC (fun j228 => p_yes x153 (p_faddr 0 x224 fun x233 =>
j228 x233 h225 .free h225) (j228 undefA h225 .free h225)) fun x229 h230 k231 h232 =>
joinC (fun j234 => p_yes x153 (p_faddr 3 x229 fun x239 =>
j234 x239 h230 .free h230) (j234 undefA h230 .free h230)) fun x235 h236 k237 h238 =>
joinC (fun j240 => p_yes x153 (p_load1 x235 h236 fun x245 b246 =>
ifB (okAll (.rd b246) h236 h236 [⟨40, k208, h209, h207⟩, ⟨35, k179, h180, h178⟩]) (
j240 x245 h236 (.rd b246) h236) false) (j240 undefA h236 .free h236)) fun x241 h242 k243 h244 =>
joinC (fun j247 => p_yes x153 (p_lenL x241 fun x252 =>
j247 x252 h242 .free h242) (j247 undefA h242 .free h242)) fun x248 h249 k250 h251 =>
joinC (fun j253 => p_yes x153 (p_bin .add fiAdd x213 x248 fun x258 =>
j253 x258 h249 .free h249) (j253 undefA h249 .free h249)) fun x254 h255 k256 h257 =>
joinC (fun j259 => p_yes x153 (p_bin .leq fiLeq x254 (vi 32) fun x264 =>
j259 x264 h255 .free h255) (j259 undefA h255 .free h255)) fun x260 h261 k262 h263 =>
p_pick x153 x260 vF fun x265 =>
c 114 [x265] h261 (fun x268 h269 =>
asNil (
p_faddr 0 (nthV A 0) fun x270 =>
p_faddr 3 x270 fun x271 =>
p_load1 x271 h269 fun x272 b273 =>
p_lenL x272 fun x274 =>
joinL (fun j275 =>
loopB k (fun r278 l279 h280 =>
p_bin .lss fiLss (nthV l279 0) x274 fun x281 =>
joinL (fun j282 => p_if x281 (
j282 [] h280) (j275 [] h280)) fun l283 h284 =>
joinL (fun j285 =>
p_iaddr 2 x272 (nthV l279 0) fun x288 =>
p_loadN 2 x288 h284 fun x289 b290 =>
(fun (x291 : AV) (h292 : AHeap) =>
p_store 2 x291 x289 h292 fun h293 b294 =>
p_faddr 0 x291 fun x295 =>
p_load1 x295 h293 fun x296 b297 =>
c 117 [x296] h293 (fun x300 h301 =>
joinV (fun j302 => p_yes x300 (p_faddr 1 x291 fun x305 =>
j302 x305 h301) (j302 undefA h301)) fun x303 h304 =>
joinV (fun j306 => p_yes x300 (p_load1 x303 h304 fun x309 b310 =>
j306 x309 h304) (j306 undefA h304)) fun x307 h308 =>
joinV (fun j311 => p_yes x300 (p_bin .geq fiGeq x307 (vi 0) fun x314 =>
j311 x314 h308) (j311 undefA h308)) fun x312 h313 =>
p_pick x300 x312 vF fun x315 =>
joinV (fun j316 => p_yes x315 (p_faddr 1 x291 fun x319 =>
j316 x319 h313) (j316 undefA h313)) fun x317 h318 =>
joinV (fun j320 => p_yes x315 (p_load1 x317 h318 fun x323 b324 =>
j320 x323 h318) (j320 undefA h318)) fun x321 h322 =>
joinV (fun j325 => p_yes x315 (p_bin .leq fiLeq x321 (vi 8) fun x328 =>
j325 x328 h322) (j325 undefA h322)) fun x326 h327 =>
p_pick x315 x326 vF fun x329 =>
c 114 [x329] h327 (fun x332 h333 =>
j285 [] h333) kp) kp) (.ptr h284.n (nat_lit 0)) (alQ h284 (.cells .own (nat_lit 0) [(vi 0), (vi 0)]))) fun l286 h287 =>
p_bin .add fiAdd (nthV l279 0) (vi 1) fun x334 =>
r278 [x334] h287) [(vi 0)] h269) fun l276 h277 =>
asNil (
p_faddr 0 (nthV A 0) fun x335 =>
p_faddr 4 x335 fun x336 =>
p_load1 x336 h277 fun x337 b338 =>
p_lenL x337 fun x339 =>
p_bin .leq fiLeq x339 (vi 16) fun x340 =>
joinC (fun j341 => p_yes x340 (j341 (nthV A 0) h277 .free h277) (j341 undefA h277 .free h277)) fun x342 h343 k344 h345 =>
joinC (fun j346 => p_yes x340 (asNil (
j346 x342 h343 .free h343) x342) (j346 undefA h343 .free h343)) fun x347 h348 k349 h350 =>
joinC (fun j351 => p_yes x340 (p_faddr 0 x347 fun x356 =>
j351 x356 h348 .free h348) (j351 undefA h348 .free h348)) fun x352 h353 k354 h355 =>
joinC (fun j357 => p_yes x340 (p_faddr 5 x352 fun x362 =>
j357 x362 h353 .free h353) (j357 undefA h353 .free h353)) fun x358 h359 k360 h361 =>
joinC (fun j363 => p_yes x340 (p_load1 x358 h359 fun x368 b369 =>
j363 x368 h359 (.rd b369) h359) (j363 undefA h359 .free h359)) fun x364 h365 k366 h367 =>
joinC (fun j370 => p_yes x340 (j370 (nthV A 0) h365 .free h365) (j370 undefA h365 .free h365)) fun x371 h372 k373 h374 =>
joinC (fun j375 => p_yes x340 (asNil (
j375 x371 h372 .free h372) x371) (j375 undefA h372 .free h372)) fun x376 h377 k378 h379 =>
joinC (fun j380 => p_yes x340 (p_faddr 0 x376 fun x385 =>
j380 x385 h377 .free h377) (j380 undefA h377 .free h377)) fun x381 h382 k383 h384 =>
joinC (fun j386 => p_yes x340 (p_faddr 4 x381 fun x391 =>
j386 x391 h382 .free h382) (j386 undefA h382 .free h382)) fun x387 h388 k389 h390 =>
joinC (fun j392 => p_yes x340 (p_load1 x387 h388 fun x397 b398 =>
ifB (okAll (.rd b398) h388 h388 [⟨12, k366, h367, h365⟩]) (
j392 x397 h388 (.rd b398) h388) false) (j392 undefA h388 .free h388)) fun x393 h394 k395 h396 =>
joinC (fun j399 => p_yes x340 (p_lenL x393 fun x404 =>
j399 x404 h394 .free h394) (j399 undefA h394 .free h394)) fun x400 h401 k402 h403 =>
joinC (fun j405 => p_yes x340 (c 118 [x364, x400] h401 (fun x412 h413 =>
j405 x412 h413 .big h401) kp) (j405 undefA h401 .free h401)) fun x406 h407 k408 h409 =>
p_pick x340 x406 vF fun x414 =>
joinC (fun j415 => p_yes x414 (j415 (nthV A 0) h407 .free h407) (j415 undefA h407 .free h407)) fun x416 h417 k418 h419 =>
joinC (fun j420 => p_yes x414 (asNil (
j420 x416 h417 .free h417) x416) (j420 undefA h417 .free h417)) fun x421 h422 k423 h424 =>
joinC (fun j425 => p_yes x414 (p_faddr 0 x421 fun x430 =>
j425 x430 h422 .free h422) (j425 undefA h422 .free h422)) fun x426 h427 k428 h429 =>
joinC (fun j431 => p_yes x414 (p_faddr 4 x426 fun x436 =>
j431 x436 h427 .free h427) (j431 undefA h427 .free h427)) fun x432 h433 k434 h435 =>
joinC (fun j437 => p_yes x414 (p_load1 x432 h433 fun x442 b443 =>
j437 x442 h433 (.rd b443) h433) (j437 undefA h433 .free h433)) fun x438 h439 k440 h441 =>
joinC (fun j444 => p_yes x414 (j444 (nthV A 0) h439 .free h439) (j444 undefA h439 .free h439)) fun x445 h446 k447 h448 =>
joinC (fun j449 => p_yes x414 (asNil (
j449 x445 h446 .free h446) x445) (j449 undefA h446 .free h446)) fun x450 h451 k452 h453 =>
joinC (fun j454 => p_yes x414 (p_faddr 0 x450 fun x459 =>
j454 x459 h451 .free h451) (j454 undefA h451 .free h451)) fun x455 h456 k457 h458 =>
joinC (fun j460 => p_yes x414 (p_faddr 5 x455 fun x465 =>
j460 x465 h456 .free h456) (j460 undefA h456 .free h456)) fun x461 h462 k463 h464 =>
joinC (fun j466 => p_yes x414 (p_load1 x461 h462 fun x471 b472 =>
ifB (okAll (.rd b472) h462 h462 [⟨26, k440, h441, h439⟩]) (
j466 x471 h462 (.rd b472) h462) false) (j466 undefA h462 .free h462)) fun x467 h468 k469 h470 =>
joinC (fun j473 => p_yes x414 (p_iaddr 12 x438 x467 fun x478 =>
j473 x478 h468 .free h468) (j473 undefA h468 .free h468)) fun x474 h475 k476 h477 =>
joinC (fun j479 => p_yes x414 (p_faddr 1 x474 fun x484 =>
j479 x484 h475 .free h475) (j479 undefA h475 .free h475)) fun x480 h481 k482 h483 =>
joinC (fun j485 => p_yes x414 (p_load1 x480 h481 fun x490 b491 =>
j485 x490 h481 (.rd b491) h481) (j485 undefA h481 .free h481)) fun x486 h487 k488 h489 =>
joinC (fun j492 => p_yes x414 (p_eq x486 (vi 0) fun x497 =>
j492 x497 h487 .free h487) (j492 undefA h487 .free h487)) fun x493 h494 k495 h496 =>
p_pick x414 x493 vF fun x498 =>
c 114 [x498] h494 (fun x501 h502 =>
asNil (
p_faddr 0 (nthV A 0) fun x503 =>
p_faddr 4 x503 fun x504 =>
p_load1 x504 h502 fun x505 b506 =>
p_lenL x505 fun x507 =>
loopB k (fun r508 l509 h510 =>
p_bin .lss fiLss (nthV l509 0) x507 fun x511 =>
joinL (fun j512 => p_if x511 (
j512 [] h510) (kr undefA h510)) fun l513 h514 =>
joinL (fun j515 =>
p_iaddr 12 x505 (nthV l509 0) fun x518 =>
p_loadN 12 x518 h514 fun x519 b520 =>
(fun (x521 : AV) (h522 : AHeap) =>
p_store 12 x521 x519 h522 fun h523 b524 =>
p_faddr 1 x521 fun x525 =>
p_load1 x525 h523 fun x526 b527 =>
p_bin .geq fiGeq x526 (vi 0) fun x528 =>
joinV (fun j529 => p_yes x528 (p_faddr 1 x521 fun x532 =>
j529 x532 h523) (j529 undefA h523)) fun x530 h531 =>
joinV (fun j533 => p_yes x528 (p_load1 x530 h531 fun x536 b537 =>
j533 x536 h531) (j533 undefA h531)) fun x534 h535 =>
joinV (fun j538 => p_yes x528 (p_bin .leq fiLeq x534 (vi 4) fun x541 =>
j538 x541 h535) (j538 undefA h535)) fun x539 h540 =>
p_pick x528 x539 vF fun x542 =>
joinV (fun j543 => p_yes x542 (p_faddr 1 x521 fun x546 =>
j543 x546 h540) (j543 undefA h540)) fun x544 h545 =>
joinV (fun j547 => p_yes x542 (p_load1 x544 h545 fun x550 b551 =>
j547 x550 h545) (j547 undefA h545)) fun x548 h549 =>
joinV (fun j552 => p_yes x542 (p_faddr 2 x521 fun x555 =>
j552 x555 h549) (j552 undefA h549)) fun x553 h554 =>
joinV (fun j556 => p_yes x542 (p_load1 x553 h554 fun x559 b560 =>
j556 x559 h554) (j556 undefA h554)) fun x557 h558 =>
joinV (fun j561 => p_yes x542 (p_lenL x557 fun x564 =>
j561 x564 h558) (j561 undefA h558)) fun x562 h563 =>
joinV (fun j565 => p_yes x542 (p_bin .leq fiLeq x548 x562 fun x568 =>
j565 x568 h563) (j565 undefA h563)) fun x566 h567 =>
p_pick x542 x566 vF fun x569 =>
joinV (fun j570 => p_yes x569 (p_faddr 2 x521 fun x573 =>
j570 x573 h567) (j570 undefA h567)) fun x571 h572 =>
joinV (fun j574 => p_yes x569 (p_load1 x571 h572 fun x577 b578 =>
j574 x577 h572) (j574 undefA h572)) fun x575 h576 =>
joinV (fun j579 => p_yes x569 (p_lenL x575 fun x582 =>
j579 x582 h576) (j579 undefA h576)) fun x580 h581 =>
joinV (fun j583 => p_yes x569 (p_bin .leq fiLeq x580 (vi 32) fun x586 =>
j583 x586 h581) (j583 undefA h581)) fun x584 h585 =>
p_pick x569 x584 vF fun x587 =>
c 114 [x587] h585 (fun x590 h591 =>
p_faddr 2 x521 fun x592 =>
p_load1 x592 h591 fun x593 b594 =>
p_faddr 1 x521 fun x595 =>
p_load1 x595 h591 fun x596 b597 =>
p_gen (.slc 1 (.t 174) none (some (.t 176)) none) [(174, x593), (176, x596)] h591 fun x598 h599 k600 =>
p_lenL x598 fun x601 =>
joinL (fun j602 =>
loopB k (fun r605 l606 h607 =>
p_bin .lss fiLss (nthV l606 0) x601 fun x608 =>
joinL (fun j609 => p_if x608 (
j609 [] h607) (j602 [] h607)) fun l610 h611 =>
joinL (fun j612 =>
p_iaddr 1 x598 (nthV l606 0) fun x615 =>
p_load1 x615 h611 fun x616 b617 =>
c 117 [x616] h611 (fun x620 h621 =>
c 114 [x620] h621 (fun x624 h625 =>
j612 [] h625) kp) kp) fun l613 h614 =>
p_bin .add fiAdd (nthV l606 0) (vi 1) fun x626 =>
r605 [x626] h614) [(vi 0)] h599) fun l603 h604 =>
p_loadN 12 x521 h604 fun x627 b628 =>
asNil (
p_faddr 6 (nthV A 0) fun x629 =>
p_store 12 x629 x627 h604 fun h630 b631 =>
p_faddr 3 x521 fun x632 =>
p_loadN 9 x632 h630 fun x633 b634 =>
c 119 [(nthV A 0), x633, (vi 0)] h630 (fun x637 h638 =>
j515 [] h638) kp) (nthV A 0)) kp) (.ptr h514.n (nat_lit 0)) (alQ h514 (.cells .own (nat_lit 0) [vS, (vi 0), .nilSlice, (vi 0), (vi 0), vS, (vi 0), (vi 0), (vi 0), (vi 0), (.int .u64 (.ofNat 0)), .nilSlice]))) fun l516 h517 =>
p_bin .add fiAdd (nthV l509 0) (vi 1) fun x639 =>
r508 [x639] h517) [(vi 0)] h502) (nthV A 0)) kp) (nthV A 0)) (nthV A 0)) kp) (nthV A 0)) kp) (nthV A 0)) false
noncomputable def d72 : FDBody := fun c k A lv h K => ifB (Nat.beq (lenV A) 1) (
p_eqv true (.one .iface) (lvQ lv) .nilIface fun x0 =>
p_if x0 (p_gen (.tassert 124 (.agg [.nilIface, (vi 0)]) (.t 8)) [(8, (lvQ lv))] h fun x1 h2 k3 =>
p_ext x1 0 fun x4 =>
p_ext x1 1 fun x5 =>
(fun (x6 : AV) (h7 : AHeap) =>
p_store 2 x6 x4 h7 fun h8 b9 =>
p_not x5 fun x10 =>
joinL (fun j11 => p_if x10 (
asIf (fun t14 x15 => false) (lvQ lv)) (j11 [] h8)) fun l12 h13 =>
p_faddr 0 x6 fun x16 =>
p_loadN 2 x16 h13 fun x17 b18 =>
p_store 2 (nthV A 0) x17 h13 fun h19 b20 =>
K h19) (.ptr h2.n (nat_lit 0)) (alQ h2 (.cells .own (nat_lit 0) [.nilIface, (vi 0)]))) (K h)) false
noncomputable def h73 : FBody := fun c D k A h kr kp => ifB (Nat.beq (lenV A) 2) (
p_bin .lss fiLss (nthV A 1) (vi 0) fun x0 =>
joinL (fun j1 => p_if x0 (
(fun (x4 : AV) => asIf (fun t5 x6 => kp (.iface t5 x6) h) x4) (.iface 9 (.str [99, 97, 110, 110, 111, 116, 32, 98, 101, 32, 110, 101, 103, 97, 116, 105, 118, 101]))) (j1 [] h)) fun l2 h3 =>
p_lenL (nthV A 0) fun x7 =>
p_gen (.cvi .u64 (.t 14)) [(14, x7)] h3 fun x8 h9 k10 =>
p_gen (.cvi .u64 (.t 16)) [(16, (nthV A 1))] h9 fun x11 h12 k13 =>
c 120 [x8, x11] h12 (fun x16 h17 =>
p_ext x16 0 fun x18 =>
p_ext x16 1 fun x19 =>
p_bin .gtr fiGtr x18 (.int .u64 (.ofNat 0)) fun x20 =>
joinV (fun j21 => p_no x20 (j21 x19 h17) (j21 undefA h17)) fun x22 h23 =>
joinV (fun j24 => p_no x20 (p_bin .gtr fiGtr x22 (.int .u64 (.ofNat 9223372036854775807)) fun x27 =>
j24 x27 h23) (j24 undefA h23)) fun x25 h26 =>
p_pick x20 vT x25 fun x28 =>
joinL (fun j29 => p_if x28 (
(fun (x32 : AV) => asIf (fun t33 x34 => kp (.iface t33 x34) h26) x32) (.iface 9 (.str [116, 104, 101, 32, 114, 101, 115, 117, 108, 116, 32, 111, 102, 32, 40, 108, 101, 110, 40, 120, 41, 32, 42, 32, 99, 111, 117, 110, 116, 41, 32, 111, 118, 101, 114, 102, 108, 111, 119, 115]))) (j29 [] h26)) fun l30 h31 =>
p_gen (.cvi .i64 (.t 28)) [(28, x19)] h31 fun x35 h36 k37 =>
p_gen (.mkslice 1 8 [(vi 0)] (.t 29) (.t 29)) [(29, x35), (29, x35)] h36 fun x38 h39 k40 =>
p_gen (.copy 1 (.t 31) (.t 32)) [(31, x38), (32, (nthV A 0))] h39 fun x41 h42 k43 =>
joinL (fun j44 =>
loopB k (fun r47 l48 h49 =>
p_lenL x38 fun x50 =>
p_bin .lss fiLss (nthV l48 0) x50 fun x51 =>
joinL (fun j52 => p_if x51 (
j52 [] h49) (j44 [] h49)) fun l53 h54 =>
p_gen (.slc 1 (.t 39) (some (.t 40)) none none) [(39, x38), (40, (nthV l48 0))] h54 fun x55 h56 k57 =>
p_gen (.slc 1 (.t 42) none (some (.t 43)) none) [(42, x38), (43, (nthV l48 0))] h56 fun x58 h59 k60 =>
ifB (okAll k60 h56 h59 [⟨3, k57, h54, h56⟩]) (
p_gen (.copy 1 (.t 41) (.t 44)) [(41, x55), (44, x58)] h59 fun x61 h62 k63 =>
p_bin .add fiAdd (nthV l48 0) x61 fun x64 =>
r47 [x64] h62) false) [x41] h42) fun l45 h46 =>
kr x38 h46) kp) false
noncomputable def h74 : FBody := fun c D k A h kr kp => ifB (Nat.beq (lenV A) 3) (
asNil (
p_faddr 6 (nthV A 0) fun x0 =>
p_load1 x0 h fun x1 b2 =>
p_gen (.lookup (.one .str) (.agg [(vi 0), (vi 0), (vi 0)]) (.t 13) (.t 14) true) [(13, x1), (14, (nthV A 1))] h fun x3 h4 k5 =>
p_ext x3 0 fun x6 =>
p_ext x3 1 fun x7 =>
(fun (x8 : AV) (h9 : AHeap) =>
p_store 3 x8 x6 h9 fun h10 b11 =>
p_not x7 fun x12 =>
joinC (fun j13 => p_yes x12 (j13 (nthV A 0) h10 .free h10) (j13 undefA h10 .free h10)) fun x14 h15 k16 h17 =>
joinC (fun j18 => p_yes x12 (j18 (nthV A 1) h15 .free h15) (j18 undefA h15 .free h15)) fun x19 h20 k21 h22 =>
joinC (fun j23 => p_yes x12 (c 121 [x14, x19] h20 (fun x32 h33 =>
j23 x32 h33 .big h20) (fun p28 h29 => p_load1 (.ptr 5 0) h29 fun x30 b31 =>
ifB (okAll (.rd b31) h29 h29 [⟨5, .big, h20, h29⟩]) (
kp p28 h29) false)) (j23 undefA h20 .free h20)) fun x24 h25 k26 h27 =>
joinC (fun j34 => p_yes x12 (p_bin .lss fiLss x24 (vi 0) fun x39 =>
j34 x39 h25 .free h25) (j34 undefA h25 .free h25)) fun x35 h36 k37 h38 =>
p_pick x12 x35 vF fun x40 =>
p_load1 (.ptr 5 0) h36 fun x41 b42 =>
ifB (okAll (.rd b42) h36 h36 [⟨5, k26, h27, h25⟩]) (
c 38 [x40, x41, (nthV A 2)] h36 (fun x45 h46 =>
asNil (
p_faddr 10 (nthV A 0) fun x47 =>
p_load1 x47 h46 fun x48 b49 =>
p_bin .lss fiLss x48 (vi 32) fun x50 =>
p_load1 (.ptr 7 0) h46 fun x51 b52 =>
ifB (okAll (.rd b52) h46 h46 [⟨3, (.rd b49), h46, h46⟩]) (
c 38 [x50, x51, (nthV A 2)] h46 (fun x55 h56 =>
asNil (
p_faddr 10 (nthV A 0) fun x57 =>
p_load1 x57 h56 fun x58 b59 =>
p_gen (.bslice 1 [(vi 0)] 1 [(0, 1, (.t 53))]) [(53, x58)] h56 fun x60 h61 k62 =>
asNil (
p_faddr 8 (nthV A 0) fun x63 =>
p_load1 x63 h61 fun x64 b65 =>
ifB (okAll (.rd b65) h61 h61 [⟨17, k62, h56, h61⟩, ⟨16, (.rd b59), h56, h56⟩]) (
p_gen (.bslice 1 [vS] 1 [(0, 1, (.t 43))]) [(43, (nthV A 1))] h61 fun x66 h67 k68 =>
ifB (okAll k68 h61 h67 [⟨5, (.rd b65), h61, h61⟩, ⟨17, k62, h56, h61⟩, ⟨16, (.rd b59), h56, h56⟩]) (
p_gen (.append 1 16 (.t 42) (.t 44)) [(42, x64), (44, x66)] h67 fun x69 h70 k71 =>
ifB (okAll k71 h67 h70 [⟨17, k62, h56, h61⟩, ⟨16, (.rd b59), h56, h56⟩]) (
asNil (
p_faddr 9 (nthV A 0) fun x72 =>
p_load1 x72 h70 fun x73 b74 =>
ifB (okAll (.rd b74) h70 h70 [⟨8, k71, h67, h70⟩, ⟨7, k68, h61, h67⟩, ⟨5, (.rd b65), h61, h61⟩, ⟨17, k62, h56, h61⟩, ⟨16, (.rd b59), h56, h56⟩]) (
p_gen (.append 1 8 (.t 49) (.t 54)) [(49, x73), (54, x60)] h70 fun x75 h76 k77 =>
asNil (
p_faddr 8 (nthV A 0) fun x78 =>
p_store 1 x78 x69 h76 fun h79 b80 =>
asNil (
p_faddr 9 (nthV A 0) fun x81 =>
p_store 1 x81 x75 h79 fun h82 b83 =>
asNil (
p_faddr 10 (nthV A 0) fun x84 =>
p_load1 x84 h82 fun x85 b86 =>
p_bin .add fiAdd x85 (vi 1) fun x87 =>
asNil (
p_faddr 10 (nthV A 0) fun x88 =>
p_store 1 x88 x87 h82 fun h89 b90 =>
asNil (
p_faddr 10 (nthV A 0) fun x91 =>
p_load1 x91 h89 fun x92 b93 =>
p_bin .sub fiSub x92 (vi 1) fun x94 =>
kr x94 h89) (nthV A 0)) (nthV A 0)) (nthV A 0)) (nthV A 0)) (nthV A 0)) false) (nthV A 0)) false) false) false) (nthV A 0)) (nthV A 0)) kp) false) (nthV A 0)) kp) false) (.ptr h4.n (nat_lit 0)) (alQ h4 (.cells .own (nat_lit 0) [(vi 0), (vi 0), (vi 0)]))) (nthV A 0)) false
noncomputable def h75 : FBody := fun c D k A h kr kp => ifB (Nat.beq (lenV A) 2) (
p_gen (.box (.t 1)) [(1, (nthV A 1))] h fun x0 h1 k2 =>
(fun (x3 : AV) (h4 : AHeap) =>
p_faddr 0 x0 fun x5 =>
p_load1 x5 h4 fun x6 b7 =>
c 122 [x6] h4 (fun x10 h11 =>
p_bin .neq fiNeq x10 (vi 0) fun x12 =>
joinL (fun j13 => p_if x12 (
p_faddr 2 x0 fun x16 =>
p_load1 x16 h11 fun x17 b18 =>
p_faddr 1 x0 fun x19 =>
p_load1 x19 h11 fun x20 b21 =>
c 123 [(nthV A 0), x17, x10, x20] h11 (fun x24 h25 =>
p_fld x24 1 fun x26 =>
p_faddr 6 x0 fun x27 =>
p_store 1 x27 x26 h25 fun h28 b29 =>
j13 [] h28) kp) (j13 [] h11)) fun l14 h15 =>
p_faddr 0 x0 fun x30 =>
p_load1 x30 h15 fun x31 b32 =>
joinL (fun j33 =>
p_eq x31 (vi 28) fun x36 =>
p_if x36 (p_faddr 2 x0 fun x37 =>
p_load1 x37 h15 fun x38 b39 =>
c 121 [(nthV A 0), x38] h15 (fun x42 h43 =>
p_bin .geq fiGeq x42 (vi 0) fun x44 =>
joinL (fun j45 => p_if x44 (
p_faddr 1 x0 fun x48 =>
p_load1 x48 h43 fun x49 b50 =>
p_gen (.build [(vi 0), (vi 0), vS, (vi 0), (vi 0), (vi 0), (vi 0), (.int .u64 (.ofNat 0)), .nilSlice] [(0, 1, (.c (vi 32))), (1, 1, (.t 37)), (4, 1, (.t 38))]) [(37, x49), (38, x42)] h43 fun x51 h52 k53 =>
p_store 9 x3 x51 h52 fun h54 b55 =>
p_loadN 9 x3 h54 fun x56 b57 => kr x56 h54) (j45 [] h43)) fun l46 h47 =>
p_faddr 1 x0 fun x58 =>
p_load1 x58 h47 fun x59 b60 =>
p_faddr 2 x0 fun x61 =>
p_load1 x61 h47 fun x62 b63 =>
ifB (okAll (.rd b63) h47 h47 [⟨1, (.rd b60), h47, h47⟩]) (
p_faddr 1 x0 fun x64 =>
p_load1 x64 h47 fun x65 b66 =>
ifB (okAll (.rd b66) h47 h47 [⟨4, (.rd b63), h47, h47⟩, ⟨1, (.rd b60), h47, h47⟩]) (
c 123 [(nthV A 0), x62, (vi 2), x65] h47 (fun x69 h70 =>
ifB (okAll .big h47 h70 [⟨1, (.rd b60), h47, h47⟩]) (
p_fld x69 1 fun x71 =>
p_gen (.build [(vi 0), (vi 0), vS, (vi 0), (vi 0), (vi 0), (vi 0), (.int .u64 (.ofNat 0)), .nilSlice] [(0, 1, (.c (vi 33))), (1, 1, (.t 41)), (4, 1, (.t 48))]) [(41, x59), (48, x71)] h70 fun x72 h73 k74 =>
p_store 9 x3 x72 h73 fun h75 b76 =>
p_loadN 9 x3 h75 fun x77 b78 => kr x77 h75) false) (fun p67 h68 => ifB (okAll .big h47 h68 [⟨1, (.rd b60), h47, h47⟩]) (
kp p67 h68) false)) false) false) kp) (p_eq x31 (vi 29) fun x79 =>
p_if x79 (p_faddr 2 x0 fun x80 =>
p_load1 x80 h15 fun x81 b82 =>
p_faddr 1 x0 fun x83 =>
p_load1 x83 h15 fun x84 b85 =>
c 123 [(nthV A 0), x81, (vi 3), x84] h15 (fun x88 h89 =>
(fun (x90 : AV) (h91 : AHeap) =>
p_store 3 x90 x88 h91 fun h92 b93 =>
p_faddr 1 x90 fun x94 =>
p_load1 x94 h92 fun x95 b96 =>
p_faddr 2 x90 fun x97 =>
p_load1 x97 h92 fun x98 b99 =>
ifB (okAll (.rd b99) h92 h92 [⟨1, (.rd b96), h92, h92⟩]) (
p_faddr 0 x0 fun x100 =>
p_store 1 x100 (vi 34) h92 fun h101 b102 =>
ifB (okAll (.wr b102) h92 h101 [⟨3, (.rd b99), h92, h92⟩, ⟨1, (.rd b96), h92, h92⟩]) (
p_faddr 2 x0 fun x103 =>
p_store 1 x103 vS h101 fun h104 b105 =>
ifB (okAll (.wr b105) h101 h104 [⟨3, (.rd b99), h92, h92⟩, ⟨1, (.rd b96), h92, h92⟩]) (
p_faddr 4 x0 fun x106 =>
p_store 1 x106 x95 h104 fun h107 b108 =>
ifB (okAll (.wr b108) h104 h107 [⟨3, (.rd b99), h92, h92⟩]) (
p_faddr 5 x0 fun x109 =>
p_store 1 x109 x98 h107 fun h110 b111 =>
j33 [] h110) false) false) false) false) (.ptr h89.n (nat_lit 0)) (alQ h89 (.cells .own (nat_lit 0) [(vi 0), (vi 0), (vi 0)]))) kp) (j33 [] h15))) fun l34 h35 =>
asNil (
p_faddr 8 (nthV A 0) fun x112 =>
p_load1 x112 h35 fun x113 b114 =>
p_lenL x113 fun x115 =>
p_faddr 8 x0 fun x116 =>
p_load1 x116 h35 fun x117 b118 =>
p_lenL x117 fun x119 =>
joinL (fun j120 =>
loopB k (fun r123 l124 h125 =>
p_bin .lss fiLss (nthV l124 1) x119 fun x126 =>
joinL (fun j127 => p_if x126 (
j127 [] h125) (j120 [(nthV l124 0)] h125)) fun l128 h129 =>
joinL (fun j130 =>
p_iaddr 9 x117 (nthV l124 1) fun x133 =>
p_loadN 9 x133 h129 fun x134 b135 =>
(fun (x136 : AV) (h137 : AHeap) =>
p_store 9 x136 x134 h137 fun h138 b139 =>
p_loadN 9 x136 h138 fun x140 b141 =>
c 75 [(nthV A 0), x140] h138 (fun x144 h145 =>
p_gen (.bslice 9 [(vi 0), (vi 0), vS, (vi 0), (vi 0), (vi 0), (vi 0), (.int .u64 (.ofNat 0)), .nilSlice] 1 [(0, 9, (.t 81))]) [(81, x144)] h145 fun x146 h147 k148 =>
p_gen (.append 9 96 (.t 78) (.t 82)) [(78, (nthV l124 0)), (82, x146)] h147 fun x149 h150 k151 =>
j130 [x149] h150) kp) (.ptr h129.n (nat_lit 0)) (alQ h129 (.cells .own (nat_lit 0) [(vi 0), (vi 0), vS, (vi 0), (vi 0), (vi 0), (vi 0), (.int .u64 (.ofNat 0)), .nilSlice]))) fun l131 h132 =>
p_bin .add fiAdd (nthV l124 1) (vi 1) fun x152 =>
r123 [(nthV l131 0), x152] h132) [.nilSlice, (vi 0)] h35) fun l121 h122 =>
p_faddr 8 x0 fun x153 =>
p_store 1 x153 (nthV l121 0) h122 fun h154 b155 =>
p_faddr 0 x0 fun x156 =>
p_load1 x156 h154 fun x157 b158 =>
joinL (fun j159 =>
p_eq x157 (vi 9) fun x162 =>
p_if x162 (asNil (
p_faddr 8 (nthV A 0) fun x163 =>
p_load1 x163 h154 fun x164 b165 =>
p_gen (.slc 1 (.t 96) none (some (.t 97)) none) [(96, x164), (97, x115)] h154 fun x166 h167 k168 =>
asNil (
p_faddr 9 (nthV A 0) fun x169 =>
p_load1 x169 h167 fun x170 b171 =>
ifB (okAll (.rd b171) h167 h167 [⟨7, k168, h154, h167⟩, ⟨5, (.rd b165), h154, h154⟩]) (
p_gen (.slc 1 (.t 102) none (some (.t 103)) none) [(102, x170), (103, x115)] h167 fun x172 h173 k174 =>
ifB (okAll k174 h167 h173 [⟨7, k168, h154, h167⟩, ⟨5, (.rd b165), h154, h154⟩]) (
asNil (
p_faddr 8 (nthV A 0) fun x175 =>
p_store 1 x175 x166 h173 fun h176 b177 =>
ifB (okAll (.wr b177) h173 h176 [⟨13, k174, h167, h173⟩]) (
asNil (
p_faddr 9 (nthV A 0) fun x178 =>
p_store 1 x178 x172 h176 fun h179 b180 =>
j159 [] h179) (nthV A 0)) false) (nthV A 0)) false) false) (nthV A 0)) (nthV A 0)) (p_eq x157 (vi 11) fun x181 =>
p_if x181 (p_faddr 2 x0 fun x182 =>
p_load1 x182 h154 fun x183 b184 =>
p_faddr 1 x0 fun x185 =>
p_load1 x185 h154 fun x186 b187 =>
c 74 [(nthV A 0), x183, x186] h154 (fun x190 h191 =>
p_faddr 4 x0 fun x192 =>
p_store 1 x192 x190 h191 fun h193 b194 =>
j159 [] h193) kp) (j159 [] h154))) fun l160 h161 =>
p_loadN 9 x0 h161 fun x195 b196 =>
p_store 9 x3 x195 h161 fun h197 b198 =>
p_loadN 9 x3 h197 fun x199 b200 => kr x199 h197) (nthV A 0)) kp) (.ptr h1.n (nat_lit 0)) (alQ h1 (.cells .own (nat_lit 0) [(vi 0), (vi 0), vS, (vi 0), (vi 0), (vi 0), (vi 0), (.int .u64 (.ofNat 0)), .nilSlice]))) false
noncomputable def h81 : FBody := fun c D k A h kr kp => ifB (Nat.beq (lenV A) 1) (
(fun (x0 : AV) (h1 : AHeap) =>
(fun (x2 : AV) (h3 : AHeap) =>
p_lenS (nthV A 0) fun x4 =>
p_bin .gtr fiGtr x4 (vi 8192) fun x5 =>
joinL (fun j6 => p_if x5 (
p_load1 (.ptr 7 0) h3 fun x9 b10 =>
p_gen (.build [.nilIface, (vi 0)] [(0, 1, (.t 8))]) [(8, x9)] h3 fun x11 h12 k13 =>
p_store 1 x0 .nilSlice h12 fun h14 b15 =>
ifB (okAll (.wr b15) h12 h14 [⟨1, k13, h3, h12⟩, ⟨0, (.rd b10), h3, h3⟩]) (
p_store 2 x2 x11 h14 fun h16 b17 =>
p_load1 x0 h16 fun x18 b19 => p_loadN 2 x2 h16 fun x20 b21 => kr (.tuple [x18, x20]) h16) false) (j6 [] h3)) fun l7 h8 =>
(fun (x22 : AV) => p_fn x22 fun g23 a24 b25 => (fun (l26 : List AV) =>
p_gen (.build [vS, (vi 0)] [(0, 1, (.t 11))]) [(11, (nthV A 0))] h8 fun x27 h28 k29 =>
p_gen (.box (.t 12)) [(12, x27)] h28 fun x30 h31 k32 =>
c 125 [x30] h31 (fun x40 h41 =>
joinL (fun j42 =>
loopB k (fun r45 l46 h47 =>
asNil (
p_faddr 1 x30 fun x48 =>
p_load1 x48 h47 fun x49 b50 =>
p_lenS (nthV A 0) fun x51 =>
p_bin .lss fiLss x49 x51 fun x52 =>
joinL (fun j53 => p_if x52 (
j53 [] h47) (j42 [] h47)) fun l54 h55 =>
joinL (fun j56 =>
p_load1 x0 h55 fun x59 b60 =>
p_lenL x59 fun x61 =>
p_eq x61 (vi 2000) fun x62 =>
joinL (fun j63 => p_if x62 (
p_load1 (.ptr 7 0) h55 fun x66 b67 =>
asNil (
p_faddr 1 x30 fun x68 =>
p_load1 x68 h55 fun x69 b70 =>
ifB (okAll (.rd b70) h55 h55 [⟨1, (.rd b67), h55, h55⟩]) (
c 126 [x30, x66, x69] h55 (fun x78 h79 =>
j63 [] h79) (fun p71 h72 => D g23 l26 (.pan p71) h72 fun h73 =>
p_load1 x0 h73 fun x74 b75 => p_loadN 2 x2 h73 fun x76 b77 => kr (.tuple [x74, x76]) h73)) false) x30) (j63 [] h55)) fun l64 h65 =>
p_load1 x0 h65 fun x80 b81 =>
c 127 [x30] h65 (fun x89 h90 =>
ifB (okAll .big h65 h90 [⟨0, (.rd b81), h65, h65⟩]) (
p_gen (.bslice 5 [(vi 0), vS, (vi 0), (.int .u64 (.ofNat 0)), (vi 0)] 1 [(0, 5, (.t 37))]) [(37, x89)] h90 fun x91 h92 k93 =>
ifB (okAll k93 h90 h92 [⟨0, (.rd b81), h65, h65⟩]) (
p_gen (.append 5 48 (.t 35) (.t 38)) [(35, x80), (38, x91)] h92 fun x94 h95 k96 =>
p_store 1 x0 x94 h95 fun h97 b98 =>
j56 [] h97) false) false) (fun p82 h83 => ifB (okAll .big h65 h83 [⟨0, (.rd b81), h65, h65⟩]) (
D g23 l26 (.pan p82) h83 fun h84 =>
p_load1 x0 h84 fun x85 b86 => p_loadN 2 x2 h84 fun x87 b88 => kr (.tuple [x85, x87]) h84) false)) fun l57 h58 =>
c 125 [x30] h58 (fun x106 h107 =>
r45 [] h107) (fun p99 h100 => D g23 l26 (.pan p99) h100 fun h101 =>
p_load1 x0 h101 fun x102 b103 => p_loadN 2 x2 h101 fun x104 b105 => kr (.tuple [x102, x104]) h101)) x30) [] h41) fun l43 h44 =>
p_load1 x0 h44 fun x108 b109 =>
p_gen (.build [.nilIface, (vi 0)] []) [] h44 fun x110 h111 k112 =>
p_store 1 x0 x108 h111 fun h113 b114 =>
p_store 2 x2 x110 h113 fun h115 b116 =>
D g23 l26 .ret h115 fun h117 =>
p_load1 x0 h117 fun x118 b119 => p_loadN 2 x2 h117 fun x120 b121 => kr (.tuple [x118, x120]) h117) (fun p33 h34 => D g23 l26 (.pan p33) h34 fun h35 =>
p_load1 x0 h35 fun x36 b37 => p_loadN 2 x2 h35 fun x38 b39 => kr (.tuple [x36, x38]) h35)) (appL a24 b25)) (.func (.func 124) [] [x0, x2])) (.ptr h1.n (nat_lit 0)) (alQ h1 (.cells .own (nat_lit 0) [.nilIface, (vi 0)]))) (.ptr h.n (nat_lit 0)) (alQ h (.cells .own (nat_lit 0) [.nilSlice]))) false
noncomputable def d82 : FDBody := fun c k A lv h K => ifB (Nat.beq (lenV A) 2) (
p_eqv true (.one .iface) (lvQ lv) .nilIface fun x0 =>
p_if x0 (p_gen (.tassert 137 (.agg [.nilIface, (vi 0)]) (.t 9)) [(9, (lvQ lv))] h fun x1 h2 k3 =>
p_ext x1 0 fun x4 =>
p_ext x1 1 fun x5 =>
(fun (x6 : AV) (h7 : AHeap) =>
p_store 2 x6 x4 h7 fun h8 b9 =>
p_not x5 fun x10 =>
joinL (fun j11 => p_if x10 (
asIf (fun t14 x15 => false) (lvQ lv)) (j11 [] h8)) fun l12 h13 =>
p_gen (.build [(vi 0), (vi 0), vS, (vi 0), (vi 0), (vi 0), (vi 0), (.int .u64 (.ofNat 0)), .nilSlice] []) [] h13 fun x16 h17 k18 =>
p_faddr 0 x6 fun x19 =>
p_loadN 2 x19 h17 fun x20 b21 =>
ifB (okAll (.rd b21) h17 h17 [⟨0, k18, h13, h17⟩]) (
p_store 9 (nthV A 0) x16 h17 fun h22 b23 =>
ifB (okAll (.wr b23) h17 h22 [⟨2, (.rd b21), h17, h17⟩]) (
p_store 2 (nthV A 1) x20 h22 fun h24 b25 =>
K h24) false) false) (.ptr h2.n (nat_lit 0)) (alQ h2 (.cells .own (nat_lit 0) [.nilIface, (vi 0)]))) (K h)) false
noncomputable def h83 : FBody := fun c D k A h kr kp => ifB (Nat.beq (lenV A) 1) (
p_load1 (.ptr 3 0) h fun x0 b1 =>
c 49 [(nthV A 0)] h (fun x4 h5 =>
ifB (okAll .big h h5 [⟨0, (.rd b1), h, h⟩]) (
p_fld x4 4 fun x6 =>
p_gen (.build [.nilIface, (vi 0)] [(0, 1, (.t 2)), (1, 1, (.t 5))]) [(2, x0), (5, x6)] h5 fun x7 h8 k9 =>
p_gen (.build [.nilIface, (vi 0)] [(0, 2, (.t 6))]) [(6, x7)] h8 fun x10 h11 k12 =>
(fun (x13 : AV) => asIf (fun t14 x15 => kp (.iface t14 x15) h11) x13) (.iface 137 x10)) false) (fun p2 h3 => ifB (okAll .big h h3 [⟨0, (.rd b1), h, h⟩]) (
kp p2 h3) false)) false
noncomputable def h84 : FBody := fun c D k A h kr kp => ifB (Nat.beq (lenV A) 2) (
c 49 [(nthV A 0)] h (fun x2 h3 =>
(fun (x4 : AV) (h5 : AHeap) =>
p_store 5 x4 x2 h5 fun h6 b7 =>
p_faddr 0 x4 fun x8 =>
p_load1 x8 h6 fun x9 b10 =>
p_eq x9 (vi 2) fun x11 =>
joinV (fun j12 => p_no x11 (p_faddr 0 x4 fun x15 =>
j12 x15 h6) (j12 undefA h6)) fun x13 h14 =>
joinV (fun j16 => p_no x11 (p_load1 x13 h14 fun x19 b20 =>
j16 x19 h14) (j16 undefA h14)) fun x17 h18 =>
joinV (fun j21 => p_no x11 (p_eq x17 (vi 5) fun x24 =>
j21 x24 h18) (j21 undefA h18)) fun x22 h23 =>
p_pick x11 vT x22 fun x25 =>
joinV (fun j26 => p_yes x25 (j26 (nthV A 1) h23) (j26 undefA h23)) fun x27 h28 =>
joinV (fun j29 => p_yes x25 (p_faddr 1 x4 fun x32 =>
j29 x32 h28) (j29 undefA h28)) fun x30 h31 =>
joinV (fun j33 => p_yes x25 (p_load1 x30 h31 fun x36 b37 =>
j33 x36 h31) (j33 undefA h31)) fun x34 h35 =>
joinV (fun j38 => p_yes x25 (c 128 [x27, x34] h35 (fun x43 h44 =>
j38 x43 h44) kp) (j38 undefA h35)) fun x39 h40 =>
p_pick x25 x39 vF fun x45 =>
kr x45 h40) (.ptr h3.n (nat_lit 0)) (alQ h3 (.cells .own (nat_lit 0) [(vi 0), vS, (vi 0), (.int .u64 (.ofNat 0)), (vi 0)]))) kp) false
noncomputable def h85 : FBody := fun c D k A h kr kp => ifB (Nat.beq (lenV A) 2) (
(fun (x0 : AV) (h1 : AHeap) =>
c 49 [(nthV A 0)] h1 (fun x4 h5 =>
(fun (x6 : AV) (h7 : AHeap) =>
p_store 5 x6 x4 h7 fun h8 b9 =>
p_faddr 0 x6 fun x10 =>
p_load1 x10 h8 fun x11 b12 =>
p_bin .neq fiNeq x11 (nthV A 1) fun x13 =>
joinL (fun j14 => p_if x13 (
c 83 [(nthV A 0)] h8 (fun x19 h20 =>
j14 [] h20) kp) (j14 [] h8)) fun l15 h16 =>
asNil (
p_faddr 0 (nthV A 0) fun x21 =>
p_load1 x21 h16 fun x22 b23 =>
p_gen (.slc 5 (.t 18) (some (.c (vi 1))) none none) [(18, x22)] h16 fun x24 h25 k26 =>
asNil (
p_faddr 0 (nthV A 0) fun x27 =>
p_store 1 x27 x24 h25 fun h28 b29 =>
p_loadN 5 x6 h28 fun x30 b31 =>
p_store 5 x0 x30 h28 fun h32 b33 =>
p_loadN 5 x0 h32 fun x34 b35 => kr x34 h32) (nthV A 0)) (nthV A 0)) (.ptr h5.n (nat_lit 0)) (alQ h5 (.cells .own (nat_lit 0) [(vi 0), vS, (vi 0), (.int .u64 (.ofNat 0)), (vi 0)]))) kp) (.ptr h.n (nat_lit 0)) (alQ h (.cells .own (nat_lit 0) [(vi 0), vS, (vi 0), (.int .u64 (.ofNat 0)), (vi 0)]))) false
noncomputable def h86 : FBody := fun c D k A h kr kp => ifB (Nat.beq (lenV A) 1) (
c 90 [(nthV A 0), (.str [91])] h (fun x2 h3 =>
c 85 [(nthV A 0), (vi 3)] h3 (fun x6 h7 =>
p_fld x6 2 fun x8 =>
c 90 [(nthV A 0), (.str [93])] h7 (fun x11 h12 =>
kr x8 h12) kp) kp) kp) false
noncomputable def h87 : FBody := fun c D k A h kr kp => ifB (Nat.beq (lenV A) 1) (
p_gen (.bslice 1 [vS, vS, vS] 3 [(0, 1, (.c (.str [105, 110, 116]))), (1, 1, (.c (.str [102, 108, 111, 97, 116]))), (2, 1, (.c (.str [98, 111, 111, 108])))]) [] h fun x0 h1 k2 =>
c 49 [(nthV A 0)] h1 (fun x5 h6 =>
p_fld x5 1 fun x7 =>
c 129 [x0, x7] h6 (fun x10 h11 =>
c 49 [(nthV A 0)] h11 (fun x14 h15 =>
p_fld x14 0 fun x16 =>
p_bin .neq fiNeq x16 (vi 2) fun x17 =>
joinV (fun j18 => p_no x17 (j18 x10 h15) (j18 undefA h15)) fun x19 h20 =>
joinV (fun j21 => p_no x17 (p_bin .lss fiLss x19 (vi 0) fun x24 =>
j21 x24 h20) (j21 undefA h20)) fun x22 h23 =>
p_pick x17 vT x22 fun x25 =>
joinL (fun j26 => p_if x25 (
c 83 [(nthV A 0)] h23 (fun x31 h32 =>
j26 [] h32) kp) (j26 [] h23)) fun l27 h28 =>
asNil (
p_faddr 0 (nthV A 0) fun x33 =>
p_load1 x33 h28 fun x34 b35 =>
p_gen (.slc 5 (.t 23) (some (.c (vi 1))) none none) [(23, x34)] h28 fun x36 h37 k38 =>
asNil (
p_faddr 0 (nthV A 0) fun x39 =>
p_store 1 x39 x36 h37 fun h40 b41 =>
p_bin .add fiAdd (vi 1) x10 fun x42 =>
kr x42 h40) (nthV A 0)) (nthV A 0)) kp) kp) kp) false
noncomputable def h88 : FBody := fun c D k A h kr kp => ifB (Nat.beq (lenV A) 2) (
c 90 [(nthV A 0), (.str [40])] h (fun x2 h3 =>
p_gen (.bslice 1 [vS] 1 [(0, 1, (.c (.str [41])))]) [] h3 fun x4 h5 k6 =>
c 84 [(nthV A 0), x4] h5 (fun x9 h10 =>
p_not x9 fun x11 =>
joinL (fun j12 =>
loopB k (fun r15 l16 h17 =>
joinL (fun j18 => p_if (nthV l16 0) (
j18 [] h17) (j12 [] h17)) fun l19 h20 =>
joinL (fun j21 =>
c 85 [(nthV A 0), (vi 1)] h20 (fun x26 h27 =>
(fun (x28 : AV) (h29 : AHeap) =>
p_store 5 x28 x26 h29 fun h30 b31 =>
p_gen (.bslice 9 [(vi 0), (vi 0), vS, (vi 0), (vi 0), (vi 0), (vi 0), (.int .u64 (.ofNat 0)), .nilSlice] 1 [(0, 9, (.c (.agg [(vi 0), (vi 0), vS, (vi 0), (vi 0), (vi 0), (vi 0), (.int .u64 (.ofNat 0)), .nilSlice])))]) [] h30 fun x32 h33 k34 =>
asNil (
p_faddr 8 (nthV A 1) fun x35 =>
p_load1 x35 h33 fun x36 b37 =>
ifB (okAll (.rd b37) h33 h33 [⟨12, k34, h30, h33⟩]) (
p_faddr 4 x28 fun x38 =>
p_load1 x38 h33 fun x39 b40 =>
ifB (okAll (.rd b40) h33 h33 [⟨3, (.rd b37), h33, h33⟩, ⟨12, k34, h30, h33⟩]) (
p_faddr 1 x28 fun x41 =>
p_load1 x41 h33 fun x42 b43 =>
ifB (okAll (.rd b43) h33 h33 [⟨5, (.rd b40), h33, h33⟩, ⟨3, (.rd b37), h33, h33⟩, ⟨12, k34, h30, h33⟩]) (
c 87 [(nthV A 0)] h33 (fun x47 h48 =>
ifB (okAll .big h33 h48 [⟨7, (.rd b43), h33, h33⟩, ⟨5, (.rd b40), h33, h33⟩, ⟨3, (.rd b37), h33, h33⟩, ⟨12, k34, h30, h33⟩]) (
p_gen (.build [(vi 0), (vi 0), vS, (vi 0), (vi 0), (vi 0), (vi 0), (.int .u64 (.ofNat 0)), .nilSlice] [(0, 1, (.c (vi 8))), (1, 1, (.t 22)), (2, 1, (.t 24)), (3, 1, (.t 26))]) [(22, x39), (24, x42), (26, x47)] h48 fun x49 h50 k51 =>
ifB (okAll k51 h48 h50 [⟨3, (.rd b37), h33, h33⟩, ⟨12, k34, h30, h33⟩]) (
p_lenL x36 fun x52 =>
p_gen (.append 9 96 (.t 20) (.t 29)) [(20, x36), (29, x32)] h50 fun x53 h54 k55 =>
p_iaddr 9 x53 x52 fun x56 =>
p_store 9 x56 x49 h54 fun h57 b58 =>
asNil (
p_faddr 8 (nthV A 1) fun x59 =>
p_store 1 x59 x53 h57 fun h60 b61 =>
ifB (okAll (.wr b61) h57 h60 [⟨15, (.wr b58), h54, h57⟩]) (
asNil (
p_faddr 4 (nthV A 1) fun x62 =>
p_load1 x62 h60 fun x63 b64 =>
p_bin .add fiAdd x63 (vi 1) fun x65 =>
asNil (
p_faddr 4 (nthV A 1) fun x66 =>
p_store 1 x66 x65 h60 fun h67 b68 =>
j21 [] h67) (nthV A 1)) (nthV A 1)) false) (nthV A 1)) false) false) (fun p44 h45 => ifB (okAll .big h33 h45 [⟨7, (.rd b43), h33, h33⟩, ⟨5, (.rd b40), h33, h33⟩, ⟨3, (.rd b37), h33, h33⟩, ⟨12, k34, h30, h33⟩]) (
p_lenL x36 fun x46 =>
kp p44 h45) false)) false) false) false) (nthV A 1)) (.ptr h27.n (nat_lit 0)) (alQ h27 (.cells .own (nat_lit 0) [(vi 0), vS, (vi 0), (.int .u64 (.ofNat 0)), (vi 0)]))) kp) fun l22 h23 =>
c 130 [(nthV A 0), (.str [44])] h23 (fun x71 h72 =>
r15 [x71] h72) kp) [x11] h10) fun l13 h14 =>
c 90 [(nthV A 0), (.str [41])] h14 (fun x75 h76 =>
kr undefA h76) kp) kp) kp) false
noncomputable def h89 : FBody := fun c D k A h kr kp => ifB (Nat.beq (lenV A) 1) (
(fun (x0 : AV) (h1 : AHeap) =>
c 131 [(nthV A 0), (.str [123])] h1 (fun x4 h5 =>
p_fld x4 4 fun x6 =>
p_gen (.build [(vi 0), (vi 0), vS, (vi 0), (vi 0), (vi 0), (vi 0), (.int .u64 (.ofNat 0)), .nilSlice] [(0, 1, (.c (vi 9))), (1, 1, (.t 6))]) [(6, x6)] h5 fun x7 h8 k9 =>
(fun (x10 : AV) (h11 : AHeap) =>
p_store 9 x10 x7 h11 fun h12 b13 =>
joinL (fun j14 =>
loopB k (fun r17 l18 h19 =>
p_gen (.bslice 1 [vS] 1 [(0, 1, (.c (.str [125])))]) [] h19 fun x20 h21 k22 =>
c 84 [(nthV A 0), x20] h21 (fun x25 h26 =>
p_not x25 fun x27 =>
joinL (fun j28 => p_if x27 (
j28 [] h26) (j14 [] h26)) fun l29 h30 =>
p_faddr 8 x10 fun x31 =>
p_load1 x31 h30 fun x32 b33 =>
c 132 [(nthV A 0)] h30 (fun x36 h37 =>
ifB (okAll .big h30 h37 [⟨1, (.rd b33), h30, h30⟩]) (
p_gen (.bslice 9 [(vi 0), (vi 0), vS, (vi 0), (vi 0), (vi 0), (vi 0), (.int .u64 (.ofNat 0)), .nilSlice] 1 [(0, 9, (.t 15))]) [(15, x36)] h37 fun x38 h39 k40 =>
ifB (okAll k40 h37 h39 [⟨1, (.rd b33), h30, h30⟩]) (
p_gen (.append 9 96 (.t 13) (.t 16)) [(13, x32), (16, x38)] h39 fun x41 h42 k43 =>
p_faddr 8 x10 fun x44 =>
p_store 1 x44 x41 h42 fun h45 b46 =>
r17 [] h45) false) false) (fun p34 h35 => ifB (okAll .big h30 h35 [⟨1, (.rd b33), h30, h30⟩]) (
kp p34 h35) false)) kp) [] h12) fun l15 h16 =>
c 133 [(nthV A 0), (.str [125])] h16 (fun x49 h50 =>
p_loadN 9 x10 h50 fun x51 b52 =>
p_store 9 x0 x51 h50 fun h53 b54 =>
p_loadN 9 x0 h53 fun x55 b56 => kr x55 h53) kp) (.ptr h8.n (nat_lit 0)) (alQ h8 (.cells .own (nat_lit 0) [(vi 0), (vi 0), vS, (vi 0), (vi 0), (vi 0), (vi 0), (.int .u64 (.ofNat 0)), .nilSlice]))) kp) (.ptr h.n (nat_lit 0)) (alQ h (.cells .own (nat_lit 0) [(vi 0), (vi 0), vS, (vi 0), (vi 0), (vi 0), (vi 0), (.int .u64 (.ofNat 0)), .nilSlice]))) false
noncomputable def h90 : FBody := fun c D k A h kr kp => ifB (Nat.beq (lenV A) 2) (
(fun (x0 : AV) (h1 : AHeap) =>
p_gen (.bslice 1 [vS] 1 [(0, 1, (.t 7))]) [(7, (nthV A 1))] h1 fun x2 h3 k4 =>
c 84 [(nthV A 0), x2] h3 (fun x7 h8 =>
p_not x7 fun x9 =>
joinL (fun j10 => p_if x9 (
c 83 [(nthV A 0)] h8 (fun x15 h16 =>
j10 [] h16) kp) (j10 [] h8)) fun l11 h12 =>
c 49 [(nthV A 0)] h12 (fun x19 h20 =>
(fun (x21 : AV) (h22 : AHeap) =>
p_store 5 x21 x19 h22 fun h23 b24 =>
asNil (
p_faddr 0 (nthV A 0) fun x25 =>
p_load1 x25 h23 fun x26 b27 =>
p_gen (.slc 5 (.t 19) (some (.c (vi 1))) none none) [(19, x26)] h23 fun x28 h29 k30 =>
asNil (
p_faddr 0 (nthV A 0) fun x31 =>
p_store 1 x31 x28 h29 fun h32 b33 =>
p_loadN 5 x21 h32 fun x34 b35 =>
p_store 5 x0 x34 h32 fun h36 b37 =>
p_loadN 5 x0 h36 fun x38 b39 => kr x38 h36) (nthV A 0)) (nthV A 0)) (.ptr h20.n (nat_lit 0)) (alQ h20 (.cells .own (nat_lit 0) [(vi 0), vS, (vi 0), (.int .u64 (.ofNat 0)), (vi 0)]))) kp) kp) (.ptr h.n (nat_lit 0)) (alQ h (.cells .own (nat_lit 0) [(vi 0), vS, (vi 0), (.int .u64 (.ofNat 0)), (vi 0)]))) false
noncomputable def d91 : FDBody := fun c k A lv h K => ifB (Nat.beq (lenV A) 2) (
p_eqv true (.one .iface) (lvQ lv) .nilIface fun x0 =>
p_if x0 (p_gen (.tassert 146 (.agg [(vi 0)]) (.t 9)) [(9, (lvQ lv))] h fun x1 h2 k3 =>
p_ext x1 0 fun x4 =>
p_ext x1 1 fun x5 =>
(fun (x6 : AV) (h7 : AHeap) =>
p_store 1 x6 x4 h7 fun h8 b9 =>
p_not x5 fun x10 =>
joinL (fun j11 => p_if x10 (
asIf (fun t14 x15 => false) (lvQ lv)) (j11 [] h8)) fun l12 h13 =>
p_gen (.build [.nilSlice, (vi 0), (vi 0), .nilSlice, .nilSlice, (vi 0)] []) [] h13 fun x16 h17 k18 =>
p_load1 (.ptr 6 0) h17 fun x19 b20 =>
ifB (okAll (.rd b20) h17 h17 [⟨0, k18, h13, h17⟩]) (
p_faddr 0 x6 fun x21 =>
p_load1 x21 h17 fun x22 b23 =>
ifB (okAll (.rd b23) h17 h17 [⟨1, (.rd b20), h17, h17⟩, ⟨0, k18, h13, h17⟩]) (
p_gen (.build [.nilIface, (vi 0)] [(0, 1, (.t 17)), (1, 1, (.t 19))]) [(17, x19), (19, x22)] h17 fun x24 h25 k26 =>
ifB (okAll k26 h17 h25 [⟨0, k18, h13, h17⟩]) (
p_store 6 (nthV A 0) x16 h25 fun h27 b28 =>
ifB (okAll (.wr b28) h25 h27 [⟨4, k26, h17, h25⟩, ⟨3, (.rd b23), h17, h17⟩]) (
p_store 2 (nthV A 1) x24 h27 fun h29 b30 =>
K h29) false) false) false) false) (.ptr h2.n (nat_lit 0)) (alQ h2 (.cells .own (nat_lit 0) [(vi 0)]))) (K h)) false
noncomputable def h92 : FBody := fun c D k A h kr kp => ifB (Nat.beq (lenV A) 1) (
p_eqv false (.one .slice) (nthV A 0) .nilSlice fun x0 =>
joinL (fun j1 => p_if x0 (
kr .nilSlice h) (j1 [.nilSlice] h)) fun l2 h3 =>
p_gen (.bslice 1 [] 0 []) [] h3 fun x4 h5 k6 =>
p_gen (.append 1 8 (.t 5) (.t 6)) [(5, x4), (6, (nthV A 0))] h5 fun x7 h8 k9 =>
kr x7 h8) false
noncomputable def h93 : FBody := fun c D k A h kr kp => ifB (Nat.beq (lenV A) 1) (
p_eqv false (.one .slice) (nthV A 0) .nilSlice fun x0 =>
joinL (fun j1 => p_if x0 (
kr .nilSlice h) (j1 [.nilSlice] h)) fun l2 h3 =>
p_gen (.bslice 2 [] 0 []) [] h3 fun x4 h5 k6 =>
p_gen (.append 2 16 (.t 5) (.t 6)) [(5, x4), (6, (nthV A 0))] h5 fun x7 h8 k9 =>
kr x7 h8) false
noncomputable def h94 : FBody := fun c D k A h kr kp => ifB (Nat.beq (lenV A) 1) (
p_eqv false (.one .slice) (nthV A 0) .nilSlice fun x0 =>
joinL (fun j1 => p_if x0 (
kr .nilSlice h) (j1 [.nilSlice] h)) fun l2 h3 =>
p_gen (.bslice 12 [] 0 []) [] h3 fun x4 h5 k6 =>
p_gen (.append 12 144 (.t 5) (.t 6)) [(5, x4), (6, (nthV A 0))] h5 fun x7 h8 k9 =>
kr x7 h8) false
noncomputable def h95 : FBody := fun c D k A h kr kp => ifB (Nat.beq (lenV A) 2) (
p_gen (.box (.t 1)) [(1, (nthV A 1))] h fun x0 h1 k2 =>
(fun (x3 : AV) (h4 : AHeap) =>
p_faddr 0 x0 fun x5 =>
p_load1 x5 h4 fun x6 b7 =>
p_eq x6 (vi 12) fun x8 =>
joinV (fun j9 => p_no x8 (p_faddr 0 x0 fun x12 =>
j9 x12 h4) (j9 undefA h4)) fun x10 h11 =>
joinV (fun j13 => p_no x8 (p_load1 x10 h11 fun x16 b17 =>
j13 x16 h11) (j13 undefA h11)) fun x14 h15 =>
joinV (fun j18 => p_no x8 (p_eq x14 (vi 13) fun x21 =>
j18 x21 h15) (j18 undefA h15)) fun x19 h20 =>
p_pick x8 vT x19 fun x22 =>
joinL (fun j23 => p_if x22 (
p_faddr 8 x0 fun x26 =>
p_load1 x26 h20 fun x27 b28 =>
p_lenL x27 fun x29 =>
asNil (
p_faddr 0 (nthV A 0) fun x30 =>
p_faddr 4 x30 fun x31 =>
p_load1 x31 h20 fun x32 b33 =>
ifB (okAll (.rd b33) h20 h20 [⟨1, (.rd b28), h20, h20⟩]) (
p_faddr 6 x0 fun x34 =>
p_load1 x34 h20 fun x35 b36 =>
ifB (okAll (.rd b36) h20 h20 [⟨7, (.rd b33), h20, h20⟩, ⟨1, (.rd b28), h20, h20⟩]) (
p_iaddr 12 x32 x35 fun x37 =>
p_faddr 1 x37 fun x38 =>
p_load1 x38 h20 fun x39 b40 =>
ifB (okAll (.rd b40) h20 h20 [⟨1, (.rd b28), h20, h20⟩]) (
p_eq x29 x39 fun x41 =>
p_faddr 1 x0 fun x42 =>
p_load1 x42 h20 fun x43 b44 =>
ifB (okAll (.rd b44) h20 h20 [⟨12, (.rd b40), h20, h20⟩, ⟨9, (.rd b36), h20, h20⟩, ⟨7, (.rd b33), h20, h20⟩, ⟨1, (.rd b28), h20, h20⟩]) (
c 134 [x41, x43] h20 (fun x47 h48 =>
j23 [] h48) kp) false) false) false) false) (nthV A 0)) (j23 [] h20)) fun l24 h25 =>
p_faddr 8 x0 fun x49 =>
p_load1 x49 h25 fun x50 b51 =>
p_lenL x50 fun x52 =>
joinL (fun j53 =>
loopB k (fun r56 l57 h58 =>
p_bin .lss fiLss (nthV l57 1) x52 fun x59 =>
joinL (fun j60 => p_if x59 (
j60 [] h58) (j53 [(nthV l57 0)] h58)) fun l61 h62 =>
joinL (fun j63 =>
p_iaddr 9 x50 (nthV l57 1) fun x66 =>
p_loadN 9 x66 h62 fun x67 b68 =>
(fun (x69 : AV) (h70 : AHeap) =>
p_store 9 x69 x67 h70 fun h71 b72 =>
p_loadN 9 x69 h71 fun x73 b74 =>
c 95 [(nthV A 0), x73] h71 (fun x77 h78 =>
p_store 9 x69 x77 h78 fun h79 b80 =>
p_faddr 0 x0 fun x81 =>
p_load1 x81 h79 fun x82 b83 =>
p_eq x82 (vi 12) fun x84 =>
joinV (fun j85 => p_no x84 (p_faddr 0 x0 fun x88 =>
j85 x88 h79) (j85 undefA h79)) fun x86 h87 =>
joinV (fun j89 => p_no x84 (p_load1 x86 h87 fun x92 b93 =>
j89 x92 h87) (j89 undefA h87)) fun x90 h91 =>
joinV (fun j94 => p_no x84 (p_eq x90 (vi 13) fun x97 =>
j94 x97 h91) (j94 undefA h91)) fun x95 h96 =>
p_pick x84 vT x95 fun x98 =>
joinL (fun j99 => p_if x98 (
p_faddr 3 x69 fun x102 =>
p_load1 x102 h96 fun x103 b104 =>
asNil (
p_faddr 0 (nthV A 0) fun x105 =>
p_faddr 4 x105 fun x106 =>
p_load1 x106 h96 fun x107 b108 =>
ifB (okAll (.rd b108) h96 h96 [⟨1, (.rd b104), h96, h96⟩]) (
p_faddr 6 x0 fun x109 =>
p_load1 x109 h96 fun x110 b111 =>
ifB (okAll (.rd b111) h96 h96 [⟨6, (.rd b108), h96, h96⟩, ⟨1, (.rd b104), h96, h96⟩]) (
p_iaddr 12 x107 x110 fun x112 =>
p_faddr 2 x112 fun x113 =>
p_load1 x113 h96 fun x114 b115 =>
ifB (okAll (.rd b115) h96 h96 [⟨1, (.rd b104), h96, h96⟩]) (
p_iaddr 1 x114 (nthV l57 1) fun x116 =>
p_load1 x116 h96 fun x117 b118 =>
ifB (okAll (.rd b118) h96 h96 [⟨1, (.rd b104), h96, h96⟩]) (
p_eq x103 x117 fun x119 =>
p_faddr 1 x69 fun x120 =>
p_load1 x120 h96 fun x121 b122 =>
ifB (okAll (.rd b122) h96 h96 [⟨14, (.rd b118), h96, h96⟩, ⟨11, (.rd b115), h96, h96⟩, ⟨8, (.rd b111), h96, h96⟩, ⟨6, (.rd b108), h96, h96⟩, ⟨1, (.rd b104), h96, h96⟩]) (
c 134 [x119, x121] h96 (fun x125 h126 =>
j99 [] h126) kp) false) false) false) false) false) (nthV A 0)) (j99 [] h96)) fun l100 h101 =>
p_eq (nthV l57 1) (vi 0) fun x127 =>
joinV (fun j128 => p_yes x127 (p_faddr 0 x0 fun x131 =>
j128 x131 h101) (j128 undefA h101)) fun x129 h130 =>
joinV (fun j132 => p_yes x127 (p_load1 x129 h130 fun x135 b136 =>
j132 x135 h130) (j132 undefA h130)) fun x133 h134 =>
joinV (fun j137 => p_yes x127 (p_eq x133 (vi 21) fun x140 =>
j137 x140 h134) (j137 undefA h134)) fun x138 h139 =>
joinV (fun j141 => p_yes x127 (j141 x138 h139) (j141 undefA h139)) fun x142 h143 =>
joinV (fun j144 => p_no x142 (p_faddr 0 x0 fun x147 =>
j144 x147 h143) (j144 undefA h143)) fun x145 h146 =>
joinV (fun j148 => p_no x142 (p_load1 x145 h146 fun x151 b152 =>
j148 x151 h146) (j148 undefA h146)) fun x149 h150 =>
joinV (fun j153 => p_no x142 (p_eq x149 (vi 22) fun x156 =>
j153 x156 h150) (j153 undefA h150)) fun x154 h155 =>
joinV (fun j157 => p_yes x127 (p_pick x142 vT x154 fun x160 =>
j157 x160 h155) (j157 undefA h155)) fun x158 h159 =>
p_pick x127 x158 vF fun x161 =>
joinL (fun j162 => p_if x161 (
p_faddr 3 x69 fun x165 =>
p_load1 x165 h159 fun x166 b167 =>
p_eq x166 (vi 3) fun x168 =>
p_faddr 1 x69 fun x169 =>
p_load1 x169 h159 fun x170 b171 =>
c 134 [x168, x170] h159 (fun x174 h175 =>
j162 [] h175) kp) (j162 [] h159)) fun l163 h164 =>
p_loadN 9 x69 h164 fun x176 b177 =>
p_gen (.bslice 9 [(vi 0), (vi 0), vS, (vi 0), (vi 0), (vi 0), (vi 0), (.int .u64 (.ofNat 0)), .nilSlice] 1 [(0, 9, (.t 90))]) [(90, x176)] h164 fun x178 h179 k180 =>
p_gen (.append 9 96 (.t 89) (.t 91)) [(89, (nthV l57 0)), (91, x178)] h179 fun x181 h182 k183 =>
j63 [x181] h182) kp) (.ptr h62.n (nat_lit 0)) (alQ h62 (.cells .own (nat_lit 0) [(vi 0), (vi 0), vS, (vi 0), (vi 0), (vi 0), (vi 0), (.int .u64 (.ofNat 0)), .nilSlice]))) fun l64 h65 =>
p_bin .add fiAdd (nthV l57 1) (vi 1) fun x184 =>
r56 [(nthV l64 0), x184] h65) [.nilSlice, (vi 0)] h25) fun l54 h55 =>
p_faddr 8 x0 fun x185 =>
p_store 1 x185 (nthV l54 0) h55 fun h186 b187 =>
p_faddr 3 x0 fun x188 =>
p_store 1 x188 (vi 0) h186 fun h189 b190 =>
p_faddr 0 x0 fun x191 =>
p_load1 x191 h189 fun x192 b193 =>
joinL (fun j194 =>
p_eq x192 (vi 25) fun x197 =>
joinL (fun j198 => p_if x197 (
j198 [x197] h189) (p_eq x192 (vi 26) fun x201 =>
p_if x201 (j198 [x201] h189) (p_eq x192 (vi 27) fun x202 =>
p_if x202 (j198 [x202] h189) (p_eq x192 (vi 32) fun x203 =>
p_if x203 (j198 [x203] h189) (p_eq x192 (vi 33) fun x204 =>
p_if x204 (j198 [x204] h189) (p_eq x192 (vi 34) fun x205 =>
p_if x205 (j198 [x205] h189) (p_eq x192 (vi 30) fun x206 =>
p_if x206 (j198 [x206] h189) (p_eq x192 (vi 31) fun x207 =>
j198 [x207] h189)))))))) fun l199 h200 =>
p_if (nthV l199 0) (p_loadN 9 x0 h200 fun x208 b209 =>
c 135 [(nthV A 0), x208] h200 (fun x212 h213 =>
p_faddr 3 x0 fun x214 =>
p_store 1 x214 x212 h213 fun h215 b216 =>
p_faddr 3 x0 fun x217 =>
p_load1 x217 h215 fun x218 b219 =>
p_bin .neq fiNeq x218 (vi 0) fun x220 =>
p_faddr 1 x0 fun x221 =>
p_load1 x221 h215 fun x222 b223 =>
c 134 [x220, x222] h215 (fun x226 h227 =>
j194 [] h227) kp) kp) (p_eq x192 (vi 11) fun x228 =>
p_if x228 (asNil (
p_faddr 6 (nthV A 0) fun x229 =>
p_load1 x229 h200 fun x230 b231 =>
p_faddr 4 x0 fun x232 =>
p_load1 x232 h200 fun x233 b234 =>
ifB (okAll (.rd b234) h200 h200 [⟨3, (.rd b231), h200, h200⟩]) (
p_iaddr 1 x230 x233 fun x235 =>
p_load1 x235 h200 fun x236 b237 =>
p_eq x236 (vi 0) fun x238 =>
joinC (fun j239 => p_no x238 (j239 (nthV A 0) h200 .free h200) (j239 undefA h200 .free h200)) fun x240 h241 k242 h243 =>
joinC (fun j244 => p_no x238 (asNil (
j244 x240 h241 .free h241) x240) (j244 undefA h241 .free h241)) fun x245 h246 k247 h248 =>
joinC (fun j249 => p_no x238 (p_faddr 6 x245 fun x254 =>
j249 x254 h246 .free h246) (j249 undefA h246 .free h246)) fun x250 h251 k252 h253 =>
joinC (fun j255 => p_no x238 (p_load1 x250 h251 fun x260 b261 =>
j255 x260 h251 (.rd b261) h251) (j255 undefA h251 .free h251)) fun x256 h257 k258 h259 =>
joinC (fun j262 => p_no x238 (p_faddr 4 x0 fun x267 =>
j262 x267 h257 .free h257) (j262 undefA h257 .free h257)) fun x263 h264 k265 h266 =>
joinC (fun j268 => p_no x238 (p_load1 x263 h264 fun x273 b274 =>
ifB (okAll (.rd b274) h264 h264 [⟨13, k258, h259, h257⟩]) (
j268 x273 h264 (.rd b274) h264) false) (j268 undefA h264 .free h264)) fun x269 h270 k271 h272 =>
joinC (fun j275 => p_no x238 (p_iaddr 1 x256 x269 fun x280 =>
j275 x280 h270 .free h270) (j275 undefA h270 .free h270)) fun x276 h277 k278 h279 =>
joinC (fun j281 => p_no x238 (p_load1 x276 h277 fun x286 b287 =>
j281 x286 h277 (.rd b287) h277) (j281 undefA h277 .free h277)) fun x282 h283 k284 h285 =>
joinC (fun j288 => p_no x238 (j288 (nthV l54 0) h283 .free h283) (j288 undefA h283 .free h283)) fun x289 h290 k291 h292 =>
joinC (fun j293 => p_no x238 (p_iaddr 9 x289 (vi 0) fun x298 =>
j293 x298 h290 .free h290) (j293 undefA h290 .free h290)) fun x294 h295 k296 h297 =>
joinC (fun j299 => p_no x238 (p_faddr 3 x294 fun x304 =>
j299 x304 h295 .free h295) (j299 undefA h295 .free h295)) fun x300 h301 k302 h303 =>
joinC (fun j305 => p_no x238 (p_load1 x300 h301 fun x310 b311 =>
ifB (okAll (.rd b311) h301 h301 [⟨17, k284, h285, h283⟩, ⟨15, k271, h272, h270⟩, ⟨13, k258, h259, h257⟩]) (
j305 x310 h301 (.rd b311) h301) false) (j305 undefA h301 .free h301)) fun x306 h307 k308 h309 =>
joinC (fun j312 => p_no x238 (p_eq x282 x306 fun x317 =>
j312 x317 h307 .free h307) (j312 undefA h307 .free h307)) fun x313 h314 k315 h316 =>
p_pick x238 vT x313 fun x318 =>
p_faddr 1 x0 fun x319 =>
p_load1 x319 h314 fun x320 b321 =>
ifB (okAll (.rd b321) h314 h314 [⟨21, k308, h309, h307⟩, ⟨17, k284, h285, h283⟩, ⟨15, k271, h272, h270⟩, ⟨13, k258, h259, h257⟩, ⟨7, (.rd b237), h200, h200⟩, ⟨5, (.rd b234), h200, h200⟩, ⟨3, (.rd b231), h200, h200⟩]) (
c 134 [x318, x320] h314 (fun x324 h325 =>
asNil (
p_faddr 6 (nthV A 0) fun x326 =>
p_load1 x326 h325 fun x327 b328 =>
p_faddr 4 x0 fun x329 =>
p_load1 x329 h325 fun x330 b331 =>
ifB (okAll (.rd b331) h325 h325 [⟨3, (.rd b328), h325, h325⟩]) (
p_iaddr 9 (nthV l54 0) (vi 0) fun x332 =>
p_faddr 3 x332 fun x333 =>
p_load1 x333 h325 fun x334 b335 =>
ifB (okAll (.rd b335) h325 h325 [⟨5, (.rd b331), h325, h325⟩, ⟨3, (.rd b328), h325, h325⟩]) (
p_iaddr 1 x327 x330 fun x336 =>
p_store 1 x336 x334 h325 fun h337 b338 =>
j194 [] h337) false) false) (nthV A 0)) kp) false) false) (nthV A 0)) (p_eq x192 (vi 10) fun x339 =>
p_if x339 (p_iaddr 9 (nthV l54 0) (vi 0) fun x340 =>
p_faddr 3 x340 fun x341 =>
p_load1 x341 h200 fun x342 b343 =>
p_iaddr 9 (nthV l54 0) (vi 1) fun x344 =>
p_faddr 3 x344 fun x345 =>
p_load1 x345 h200 fun x346 b347 =>
ifB (okAll (.rd b347) h200 h200 [⟨3, (.rd b343), h200, h200⟩]) (
p_eq x342 x346 fun x348 =>
p_faddr 1 x0 fun x349 =>
p_load1 x349 h200 fun x350 b351 =>
ifB (okAll (.rd b351) h200 h200 [⟨7, (.rd b347), h200, h200⟩, ⟨3, (.rd b343), h200, h200⟩]) (
c 134 [x348, x350] h200 (fun x354 h355 =>
j194 [] h355) kp) false) false) (p_eq x192 (vi 16) fun x356 =>
joinL (fun j357 => p_if x356 (
j357 [x356] h200) (p_eq x192 (vi 17) fun x360 =>
j357 [x360] h200)) fun l358 h359 =>
p_if (nthV l358 0) (p_iaddr 9 (nthV l54 0) (vi 0) fun x361 =>
p_faddr 3 x361 fun x362 =>
p_load1 x362 h359 fun x363 b364 =>
asNil (
p_faddr 0 (nthV A 0) fun x365 =>
p_faddr 3 x365 fun x366 =>
p_load1 x366 h359 fun x367 b368 =>
ifB (okAll (.rd b368) h359 h359 [⟨3, (.rd b364), h359, h359⟩]) (
p_faddr 6 x0 fun x369 =>
p_load1 x369 h359 fun x370 b371 =>
ifB (okAll (.rd b371) h359 h359 [⟨8, (.rd b368), h359, h359⟩, ⟨3, (.rd b364), h359, h359⟩]) (
p_iaddr 2 x367 x370 fun x372 =>
p_faddr 0 x372 fun x373 =>
p_load1 x373 h359 fun x374 b375 =>
ifB (okAll (.rd b375) h359 h359 [⟨3, (.rd b364), h359, h359⟩]) (
p_eq x363 x374 fun x376 =>
p_iaddr 9 (nthV l54 0) (vi 0) fun x377 =>
p_faddr 1 x377 fun x378 =>
p_load1 x378 h359 fun x379 b380 =>
ifB (okAll (.rd b380) h359 h359 [⟨13, (.rd b375), h359, h359⟩, ⟨10, (.rd b371), h359, h359⟩, ⟨8, (.rd b368), h359, h359⟩, ⟨3, (.rd b364), h359, h359⟩]) (
c 134 [x376, x379] h359 (fun x383 h384 =>
j194 [] h384) kp) false) false) false) false) (nthV A 0)) (p_eq x192 (vi 18) fun x385 =>
joinL (fun j386 => p_if x385 (
j386 [x385] h359) (p_eq x192 (vi 19) fun x389 =>
p_if x389 (j386 [x389] h359) (p_eq x192 (vi 20) fun x390 =>
p_if x390 (j386 [x390] h359) (p_eq x192 (vi 24) fun x391 =>
j386 [x391] h359)))) fun l387 h388 =>
p_if (nthV l387 0) (p_iaddr 9 (nthV l54 0) (vi 0) fun x392 =>
p_faddr 3 x392 fun x393 =>
p_load1 x393 h388 fun x394 b395 =>
p_eq x394 (vi 1) fun x396 =>
p_iaddr 9 (nthV l54 0) (vi 0) fun x397 =>
p_faddr 1 x397 fun x398 =>
p_load1 x398 h388 fun x399 b400 =>
ifB (okAll (.rd b400) h388 h388 [⟨3, (.rd b395), h388, h388⟩]) (
c 134 [x396, x399] h388 (fun x403 h404 =>
j194 [] h404) kp) false) (j194 [] h388)))))) fun l195 h196 =>
p_loadN 9 x0 h196 fun x405 b406 =>
p_store 9 x3 x405 h196 fun h407 b408 =>
p_loadN 9 x3 h407 fun x409 b410 => kr x409 h407) (.ptr h1.n (nat_lit 0)) (alQ h1 (.cells .own (nat_lit 0) [(vi 0), (vi 0), vS, (vi 0), (vi 0), (vi 0), (vi 0), (.int .u64 (.ofNat 0)), .nilSlice]))) false
noncomputable def h96 : FBody := fun c D k A h kr kp => ifB (Nat.beq (lenV A) 1) (
(fun (x0 : AV) (h1 : AHeap) =>
(fun (x2 : AV) => p_gen (.bslice 1 [vS] 1 [(0, 1, (.c (.str [124, 124])))]) [] h1 fun x3 h4 k5 =>
c 136 [(nthV A 0), x2, vT, x3] h4 (fun x8 h9 =>
p_store 9 x0 x8 h9 fun h10 b11 =>
p_loadN 9 x0 h10 fun x12 b13 => kr x12 h10) kp) (.func (.func 137) [(nthV A 0)] [])) (.ptr h.n (nat_lit 0)) (alQ h (.cells .own (nat_lit 0) [(vi 0), (vi 0), vS, (vi 0), (vi 0), (vi 0), (vi 0), (.int .u64 (.ofNat 0)), .nilSlice]))) false
noncomputable def d97 : FDBody := fun c k A lv h K => ifB (Nat.beq (lenV A) 1) (
p_eqv true (.one .iface) (lvQ lv) .nilIface fun x0 =>
p_if x0 (p_gen (.tassert 154 (.agg []) (.t 8)) [(8, (lvQ lv))] h fun x1 h2 k3 =>
p_ext x1 0 fun x4 =>
p_ext x1 1 fun x5 =>
(fun (x6 : AV) (h7 : AHeap) =>
p_store 0 x6 x4 h7 fun h8 b9 =>
p_not x5 fun x10 =>
joinL (fun j11 => p_if x10 (
asIf (fun t14 x15 => false) (lvQ lv)) (j11 [] h8)) fun l12 h13 =>
p_load1 (.ptr 0 0) h13 fun x16 b17 =>
p_store 1 (nthV A 0) x16 h13 fun h18 b19 =>
K h18) (.ptr h2.n (nat_lit 0)) (alQ h2 (.cells .own (nat_lit 0) []))) (K h)) false
noncomputable def h98 : FBody := fun c D k A h kr kp => ifB (Nat.beq (lenV A) 2) (
p_gen (.box (.t 0)) [(0, (nthV A 0))] h fun x0 h1 k2 =>
p_not (nthV A 1) fun x3 =>
p_if x3 (p_gen (.build [] []) [] h1 fun x4 h5 k6 =>
(fun (x7 : AV) => asIf (fun t8 x9 => kp (.iface t8 x9) h5) x7) (.iface 154 x4)) (kr undefA h1)) false
noncomputable def h99 : FBody := fun c D k A h kr kp => ifB (Nat.beq (lenV A) 3) (
p_gen (.box (.t 0)) [(0, (nthV A 0))] h fun x0 h1 k2 =>
p_gen (.box (.t 1)) [(1, (nthV A 1))] h1 fun x3 h4 k5 =>
p_gen (.box (.t 2)) [(2, (nthV A 2))] h4 fun x6 h7 k8 =>
p_faddr 0 x3 fun x9 =>
p_load1 x9 h7 fun x10 b11 =>
p_faddr 1 x3 fun x12 =>
p_load1 x12 h7 fun x13 b14 =>
ifB (okAll (.rd b14) h7 h7 [⟨1, (.rd b11), h7, h7⟩]) (
p_faddr 0 x6 fun x15 =>
p_store 1 x15 x10 h7 fun h16 b17 =>
ifB (okAll (.wr b17) h7 h16 [⟨3, (.rd b14), h7, h7⟩]) (
p_faddr 1 x6 fun x18 =>
p_store 1 x18 x13 h16 fun h19 b20 =>
p_faddr 8 x6 fun x21 =>
p_store 1 x21 .nilSlice h19 fun h22 b23 =>
p_faddr 8 x3 fun x24 =>
p_store 1 x24 .nilSlice h22 fun h25 b26 =>
p_loadN 0 x0 h25 fun x27 b28 =>
p_faddr 2 x3 fun x29 =>
p_load1 x29 h25 fun x30 b31 =>
p_faddr 2 x6 fun x32 =>
p_load1 x32 h25 fun x33 b34 =>
p_eq x30 x33 fun x35 =>
joinV (fun j36 => p_yes x35 (p_faddr 3 x3 fun x39 =>
j36 x39 h25) (j36 undefA h25)) fun x37 h38 =>
joinV (fun j40 => p_yes x35 (p_load1 x37 h38 fun x43 b44 =>
j40 x43 h38) (j40 undefA h38)) fun x41 h42 =>
joinV (fun j45 => p_yes x35 (p_faddr 3 x6 fun x48 =>
j45 x48 h42) (j45 undefA h42)) fun x46 h47 =>
joinV (fun j49 => p_yes x35 (p_load1 x46 h47 fun x52 b53 =>
j49 x52 h47) (j49 undefA h47)) fun x50 h51 =>
joinV (fun j54 => p_yes x35 (p_eq x41 x50 fun x57 =>
j54 x57 h51) (j54 undefA h51)) fun x55 h56 =>
p_pick x35 x55 vF fun x58 =>
joinV (fun j59 => p_yes x58 (p_faddr 4 x3 fun x62 =>
j59 x62 h56) (j59 undefA h56)) fun x60 h61 =>
joinV (fun j63 => p_yes x58 (p_load1 x60 h61 fun x66 b67 =>
j63 x66 h61) (j63 undefA h61)) fun x64 h65 =>
joinV (fun j68 => p_yes x58 (p_faddr 4 x6 fun x71 =>
j68 x71 h65) (j68 undefA h65)) fun x69 h70 =>
joinV (fun j72 => p_yes x58 (p_load1 x69 h70 fun x75 b76 =>
j72 x75 h70) (j72 undefA h70)) fun x73 h74 =>
joinV (fun j77 => p_yes x58 (p_eq x64 x73 fun x80 =>
j77 x80 h74) (j77 undefA h74)) fun x78 h79 =>
p_pick x58 x78 vF fun x81 =>
joinV (fun j82 => p_yes x81 (p_faddr 5 x3 fun x85 =>
j82 x85 h79) (j82 undefA h79)) fun x83 h84 =>
joinV (fun j86 => p_yes x81 (p_load1 x83 h84 fun x89 b90 =>
j86 x89 h84) (j86 undefA h84)) fun x87 h88 =>
joinV (fun j91 => p_yes x81 (p_faddr 5 x6 fun x94 =>
j91 x94 h88) (j91 undefA h88)) fun x92 h93 =>
joinV (fun j95 => p_yes x81 (p_load1 x92 h93 fun x98 b99 =>
j95 x98 h93) (j95 undefA h93)) fun x96 h97 =>
joinV (fun j100 => p_yes x81 (p_eq x87 x96 fun x103 =>
j100 x103 h97) (j100 undefA h97)) fun x101 h102 =>
p_pick x81 x101 vF fun x104 =>
joinV (fun j105 => p_yes x104 (p_faddr 6 x3 fun x108 =>
j105 x108 h102) (j105 undefA h102)) fun x106 h107 =>
joinV (fun j109 => p_yes x104 (p_load1 x106 h107 fun x112 b113 =>
j109 x112 h107) (j109 undefA h107)) fun x110 h111 =>
joinV (fun j114 => p_yes x104 (p_faddr 6 x6 fun x117 =>
j114 x117 h111) (j114 undefA h111)) fun x115 h116 =>
joinV (fun j118 => p_yes x104 (p_load1 x115 h116 fun x121 b122 =>
j118 x121 h116) (j118 undefA h116)) fun x119 h120 =>
joinV (fun j123 => p_yes x104 (p_eq x110 x119 fun x126 =>
j123 x126 h120) (j123 undefA h120)) fun x124 h125 =>
p_pick x104 x124 vF fun x127 =>
joinV (fun j128 => p_yes x127 (p_faddr 7 x3 fun x131 =>
j128 x131 h125) (j128 undefA h125)) fun x129 h130 =>
joinV (fun j132 => p_yes x127 (p_load1 x129 h130 fun x135 b136 =>
j132 x135 h130) (j132 undefA h130)) fun x133 h134 =>
joinV (fun j137 => p_yes x127 (p_faddr 7 x6 fun x140 =>
j137 x140 h134) (j137 undefA h134)) fun x138 h139 =>
joinV (fun j141 => p_yes x127 (p_load1 x138 h139 fun x144 b145 =>
j141 x144 h139) (j141 undefA h139)) fun x142 h143 =>
joinV (fun j146 => p_yes x127 (p_eq x133 x142 fun x149 =>
j146 x149 h143) (j146 undefA h143)) fun x147 h148 =>
p_pick x127 x147 vF fun x150 =>
c 98 [x27, x150] h148 (fun x153 h154 =>
kr undefA h154) kp) false) false) false
noncomputable def h100 : FBody := fun c D k A h kr kp => ifB (Nat.beq (lenV A) 2) (
p_gen (.box (.t 0)) [(0, (nthV A 0))] h fun x0 h1 k2 =>
p_gen (.box (.t 1)) [(1, (nthV A 1))] h1 fun x3 h4 k5 =>
p_loadN 0 x0 h4 fun x6 b7 =>
p_faddr 2 x3 fun x8 =>
p_load1 x8 h4 fun x9 b10 =>
c 108 [x6, x9] h4 (fun x13 h14 =>
p_faddr 0 x3 fun x15 =>
p_load1 x15 h14 fun x16 b17 =>
joinL (fun j18 =>
p_eq x16 (vi 4) fun x21 =>
joinL (fun j22 => p_if x21 (
j22 [x21] h14) (p_eq x16 (vi 6) fun x25 =>
j22 [x25] h14)) fun l23 h24 =>
p_if (nthV l23 0) (p_loadN 0 x0 h24 fun x26 b27 =>
p_loadN 9 x3 h24 fun x28 b29 =>
p_faddr 2 x3 fun x30 =>
p_load1 x30 h24 fun x31 b32 =>
p_gen (.build [(vi 0), (vi 0), vS, (vi 0), (vi 0), (vi 0), (vi 0), (.int .u64 (.ofNat 0)), .nilSlice] [(2, 1, (.t 20))]) [(20, x31)] h24 fun x33 h34 k35 =>
c 99 [x26, x28, x33] h34 (fun x38 h39 =>
j18 [] h39) kp) (p_eq x16 (vi 2) fun x40 =>
joinL (fun j41 => p_if x40 (
j41 [x40] h24) (p_eq x16 (vi 3) fun x44 =>
p_if x44 (j41 [x44] h24) (p_eq x16 (vi 5) fun x45 =>
j41 [x45] h24))) fun l42 h43 =>
p_if (nthV l42 0) (p_loadN 0 x0 h43 fun x46 b47 =>
p_faddr 3 x3 fun x48 =>
p_load1 x48 h43 fun x49 b50 =>
c 138 [x46, x49] h43 (fun x53 h54 =>
p_loadN 0 x0 h54 fun x55 b56 =>
p_faddr 4 x3 fun x57 =>
p_load1 x57 h54 fun x58 b59 =>
p_bin .geq fiGeq x58 (vi 0) fun x60 =>
joinV (fun j61 => p_yes x60 (p_faddr 4 x3 fun x64 =>
j61 x64 h54) (j61 undefA h54)) fun x62 h63 =>
joinV (fun j65 => p_yes x60 (p_load1 x62 h63 fun x68 b69 =>
j65 x68 h63) (j65 undefA h63)) fun x66 h67 =>
joinV (fun j70 => p_yes x60 (p_eq x66 (vi 0) fun x73 =>
j70 x73 h67) (j70 undefA h67)) fun x71 h72 =>
joinV (fun j74 => p_yes x60 (j74 x71 h72) (j74 undefA h72)) fun x75 h76 =>
joinV (fun j77 => p_no x75 (p_faddr 0 x3 fun x80 =>
j77 x80 h76) (j77 undefA h76)) fun x78 h79 =>
joinV (fun j81 => p_no x75 (p_load1 x78 h79 fun x84 b85 =>
j81 x84 h79) (j81 undefA h79)) fun x82 h83 =>
joinV (fun j86 => p_no x75 (p_bin .neq fiNeq x82 (vi 2) fun x89 =>
j86 x89 h83) (j86 undefA h83)) fun x87 h88 =>
joinV (fun j90 => p_yes x60 (p_pick x75 vT x87 fun x93 =>
j90 x93 h88) (j90 undefA h88)) fun x91 h92 =>
p_pick x60 x91 vF fun x94 =>
c 98 [x55, x94] h92 (fun x97 h98 =>
p_loadN 0 x0 h98 fun x99 b100 =>
p_loadN 9 x3 h98 fun x101 b102 =>
p_faddr 2 x3 fun x103 =>
p_load1 x103 h98 fun x104 b105 =>
p_faddr 3 x3 fun x106 =>
p_load1 x106 h98 fun x107 b108 =>
p_faddr 4 x3 fun x109 =>
p_load1 x109 h98 fun x110 b111 =>
p_gen (.build [(vi 0), (vi 0), vS, (vi 0), (vi 0), (vi 0), (vi 0), (.int .u64 (.ofNat 0)), .nilSlice] [(2, 1, (.t 49)), (3, 1, (.t 51)), (4, 1, (.t 53))]) [(49, x104), (51, x107), (53, x110)] h98 fun x112 h113 k114 =>
c 99 [x99, x101, x112] h113 (fun x117 h118 =>
j18 [] h118) kp) kp) kp) (p_eq x16 (vi 7) fun x119 =>
p_if x119 (p_loadN 0 x0 h43 fun x120 b121 =>
p_faddr 8 x3 fun x122 =>
p_load1 x122 h43 fun x123 b124 =>
p_lenL x123 fun x125 =>
p_bin .geq fiGeq x125 (vi 1) fun x126 =>
c 98 [x120, x126] h43 (fun x129 h130 =>
p_loadN 0 x0 h130 fun x131 b132 =>
p_loadN 9 x3 h130 fun x133 b134 =>
p_faddr 2 x3 fun x135 =>
p_load1 x135 h130 fun x136 b137 =>
p_faddr 8 x3 fun x138 =>
p_load1 x138 h130 fun x139 b140 =>
p_lenL x139 fun x141 =>
p_bin .sub fiSub x141 (vi 1) fun x142 =>
p_gen (.build [(vi 0), (vi 0), vS, (vi 0), (vi 0), (vi 0), (vi 0), (.int .u64 (.ofNat 0)), .nilSlice] [(2, 1, (.t 67)), (4, 1, (.t 71))]) [(67, x136), (71, x142)] h130 fun x143 h144 k145 =>
c 99 [x131, x133, x143] h144 (fun x148 h149 =>
p_faddr 8 x3 fun x150 =>
p_load1 x150 h149 fun x151 b152 =>
p_faddr 8 x3 fun x153 =>
p_load1 x153 h149 fun x154 b155 =>
p_lenL x154 fun x156 =>
p_bin .sub fiSub x156 (vi 1) fun x157 =>
p_gen (.slc 9 (.t 75) none (some (.t 79)) none) [(75, x151), (79, x157)] h149 fun x158 h159 k160 =>
p_lenL x158 fun x161 =>
joinL (fun j162 =>
loopB k (fun r165 l166 h167 =>
p_bin .lss fiLss (nthV l166 0) x161 fun x168 =>
joinL (fun j169 => p_if x168 (
j169 [] h167) (j162 [] h167)) fun l170 h171 =>
joinL (fun j172 =>
p_iaddr 9 x158 (nthV l166 0) fun x175 =>
p_loadN 9 x175 h171 fun x176 b177 =>
(fun (x178 : AV) (h179 : AHeap) =>
p_store 9 x178 x176 h179 fun h180 b181 =>
p_loadN 0 x0 h180 fun x182 b183 =>
p_faddr 0 x178 fun x184 =>
p_load1 x184 h180 fun x185 b186 =>
p_eq x185 (vi 8) fun x187 =>
joinV (fun j188 => p_yes x187 (p_faddr 8 x178 fun x191 =>
j188 x191 h180) (j188 undefA h180)) fun x189 h190 =>
joinV (fun j192 => p_yes x187 (p_load1 x189 h190 fun x195 b196 =>
j192 x195 h190) (j192 undefA h190)) fun x193 h194 =>
joinV (fun j197 => p_yes x187 (p_lenL x193 fun x200 =>
j197 x200 h194) (j197 undefA h194)) fun x198 h199 =>
joinV (fun j201 => p_yes x187 (p_eq x198 (vi 0) fun x204 =>
j201 x204 h199) (j201 undefA h199)) fun x202 h203 =>
p_pick x187 x202 vF fun x205 =>
c 98 [x182, x205] h203 (fun x208 h209 =>
p_loadN 0 x0 h209 fun x210 b211 =>
p_faddr 2 x178 fun x212 =>
p_load1 x212 h209 fun x213 b214 =>
c 108 [x210, x213] h209 (fun x217 h218 =>
p_loadN 0 x0 h218 fun x219 b220 =>
p_faddr 3 x178 fun x221 =>
p_load1 x221 h218 fun x222 b223 =>
c 138 [x219, x222] h218 (fun x226 h227 =>
p_loadN 0 x0 h227 fun x228 b229 =>
p_loadN 9 x178 h227 fun x230 b231 =>
p_faddr 2 x178 fun x232 =>
p_load1 x232 h227 fun x233 b234 =>
p_faddr 3 x178 fun x235 =>
p_load1 x235 h227 fun x236 b237 =>
p_gen (.build [(vi 0), (vi 0), vS, (vi 0), (vi 0), (vi 0), (vi 0), (.int .u64 (.ofNat 0)), .nilSlice] [(2, 1, (.t 108)), (3, 1, (.t 110))]) [(108, x233), (110, x236)] h227 fun x238 h239 k240 =>
c 99 [x228, x230, x238] h239 (fun x243 h244 =>
j172 [] h244) kp) kp) kp) kp) (.ptr h171.n (nat_lit 0)) (alQ h171 (.cells .own (nat_lit 0) [(vi 0), (vi 0), vS, (vi 0), (vi 0), (vi 0), (vi 0), (.int .u64 (.ofNat 0)), .nilSlice]))) fun l173 h174 =>
p_bin .add fiAdd (nthV l166 0) (vi 1) fun x245 =>
r165 [x245] h174) [(vi 0)] h159) fun l163 h164 =>
p_loadN 0 x0 h164 fun x246 b247 =>
p_faddr 8 x3 fun x248 =>
p_load1 x248 h164 fun x249 b250 =>
ifB (okAll (.rd b250) h164 h164 [⟨0, (.rd b247), h164, h164⟩]) (
p_faddr 8 x3 fun x251 =>
p_load1 x251 h164 fun x252 b253 =>
ifB (okAll (.rd b253) h164 h164 [⟨2, (.rd b250), h164, h164⟩, ⟨0, (.rd b247), h164, h164⟩]) (
p_lenL x252 fun x254 =>
p_bin .sub fiSub x254 (vi 1) fun x255 =>
p_iaddr 9 x249 x255 fun x256 =>
p_loadN 9 x256 h164 fun x257 b258 =>
ifB (okAll (.rd b258) h164 h164 [⟨0, (.rd b247), h164, h164⟩]) (
c 139 [x246, x257] h164 (fun x261 h262 =>
kr undefA h262) kp) false) false) false) kp) kp) (p_loadN 0 x0 h43 fun x263 b264 =>
c 98 [x263, vF] h43 (fun x267 h268 =>
j18 [] h268) kp)))) fun l19 h20 =>
p_loadN 0 x0 h20 fun x269 b270 =>
p_faddr 8 x3 fun x271 =>
p_load1 x271 h20 fun x272 b273 =>
p_lenL x272 fun x274 =>
p_eq x274 (vi 0) fun x275 =>
c 98 [x269, x275] h20 (fun x278 h279 =>
kr undefA h279) kp) kp) false
noncomputable def h108 : FBody := fun c D k A h kr kp => ifB (Nat.beq (lenV A) 2) (
p_gen (.box (.t 0)) [(0, (nthV A 0))] h fun x0 h1 k2 =>
c 81 [(nthV A 1)] h1 (fun x5 h6 =>
p_ext x5 0 fun x7 =>
p_ext x5 1 fun x8 =>
(fun (x9 : AV) (h10 : AHeap) =>
p_store 2 x9 x8 h10 fun h11 b12 =>
p_loadN 0 x0 h11 fun x13 b14 =>
p_faddr 0 x9 fun x15 =>
p_load1 x15 h11 fun x16 b17 =>
ifB (okAll (.rd b17) h11 h11 [⟨0, (.rd b14), h11, h11⟩]) (
p_eqv false (.one .iface) x16 .nilIface fun x18 =>
joinC (fun j19 => p_yes x18 (j19 x7 h11 .free h11) (j19 undefA h11 .free h11)) fun x20 h21 k22 h23 =>
joinC (fun j24 => p_yes x18 (p_lenL x20 fun x29 =>
j24 x29 h21 .free h21) (j24 undefA h21 .free h21)) fun x25 h26 k27 h28 =>
joinC (fun j30 => p_yes x18 (p_eq x25 (vi 1) fun x35 =>
j30 x35 h26 .free h26) (j30 undefA h26 .free h26)) fun x31 h32 k33 h34 =>
p_pick x18 x31 vF fun x36 =>
joinC (fun j37 => p_yes x36 (j37 x7 h32 .free h32) (j37 undefA h32 .free h32)) fun x38 h39 k40 h41 =>
joinC (fun j42 => p_yes x36 (p_iaddr 5 x38 (vi 0) fun x47 =>
j42 x47 h39 .free h39) (j42 undefA h39 .free h39)) fun x43 h44 k45 h46 =>
joinC (fun j48 => p_yes x36 (p_faddr 0 x43 fun x53 =>
j48 x53 h44 .free h44) (j48 undefA h44 .free h44)) fun x49 h50 k51 h52 =>
joinC (fun j54 => p_yes x36 (p_load1 x49 h50 fun x59 b60 =>
ifB (okAll (.rd b60) h50 h50 [⟨0, (.rd b14), h11, h11⟩]) (
j54 x59 h50 (.rd b60) h50) false) (j54 undefA h50 .free h50)) fun x55 h56 k57 h58 =>
joinC (fun j61 => p_yes x36 (p_eq x55 (vi 1) fun x66 =>
j61 x66 h56 .free h56) (j61 undefA h56 .free h56)) fun x62 h63 k64 h65 =>
p_pick x36 x62 vF fun x67 =>
joinC (fun j68 => p_yes x67 (j68 x7 h63 .free h63) (j68 undefA h63 .free h63)) fun x69 h70 k71 h72 =>
joinC (fun j73 => p_yes x67 (p_iaddr 5 x69 (vi 0) fun x78 =>
j73 x78 h70 .free h70) (j73 undefA h70 .free h70)) fun x74 h75 k76 h77 =>
joinC (fun j79 => p_yes x67 (p_faddr 1 x74 fun x84 =>
j79 x84 h75 .free h75) (j79 undefA h75 .free h75)) fun x80 h81 k82 h83 =>
joinC (fun j85 => p_yes x67 (p_load1 x80 h81 fun x90 b91 =>
ifB (okAll (.rd b91) h81 h81 [⟨0, (.rd b14), h11, h11⟩]) (
j85 x90 h81 (.rd b91) h81) false) (j85 undefA h81 .free h81)) fun x86 h87 k88 h89 =>
joinC (fun j92 => p_yes x67 (j92 (nthV A 1) h87 .free h87) (j92 undefA h87 .free h87)) fun x93 h94 k95 h96 =>
joinC (fun j97 => p_yes x67 (p_eq x86 x93 fun x102 =>
j97 x102 h94 .free h94) (j97 undefA h94 .free h94)) fun x98 h99 k100 h101 =>
p_pick x67 x98 vF fun x103 =>
c 98 [x13, x103] h99 (fun x106 h107 =>
kr undefA h107) kp) false) (.ptr h6.n (nat_lit 0)) (alQ h6 (.cells .own (nat_lit 0) [.nilIface, (vi 0)]))) kp) false
noncomputable def h109 : FBody := fun c D k A h kr kp => ifB (Nat.beq (lenV A) 1) (
p_gen (.bslice 1 [vS] 1 [(0, 1, (.c (.str [124, 124])))]) [] h fun x0 h1 k2 =>
p_gen (.bslice 1 [vS] 1 [(0, 1, (.c (.str [38, 38])))]) [] h1 fun x3 h4 k5 =>
p_gen (.bslice 1 [vS, vS, vS, vS, vS, vS] 6 [(0, 1, (.c (.str [61, 61]))), (1, 1, (.c (.str [33, 61]))), (2, 1, (.c (.str [60]))), (3, 1, (.c (.str [60, 61]))), (4, 1, (.c (.str [62]))), (5, 1, (.c (.str [62, 61])))]) [] h4 fun x6 h7 k8 =>
p_gen (.bslice 1 [vS, vS] 2 [(0, 1, (.c (.str [43]))), (1, 1, (.c (.str [45])))]) [] h7 fun x9 h10 k11 =>
p_gen (.bslice 1 [vS, vS, vS] 3 [(0, 1, (.c (.str [42]))), (1, 1, (.c (.str [47]))), (2, 1, (.c (.str [37])))]) [] h10 fun x12 h13 k14 =>
p_gen (.build [.nilSlice, .nilSlice, .nilSlice, .nilSlice, .nilSlice] [(0, 1, (.t 7)), (1, 1, (.t 8)), (2, 1, (.t 9)), (3, 1, (.t 10)), (4, 1, (.t 11))]) [(7, x0), (8, x3), (9, x6), (10, x9), (11, x12)] h13 fun x15 h16 k17 =>
joinL (fun j18 =>
loopB k (fun r21 l22 h23 =>
p_bin .lss fiLss (nthV l22 1) (vi 5) fun x24 =>
joinL (fun j25 => p_if x24 (
j25 [] h23) (j18 [(nthV l22 0)] h23)) fun l26 h27 =>
joinL (fun j28 =>
p_gen (.idxa false 5 1 (.t 12) (.t 13)) [(12, x15), (13, (nthV l22 1))] h27 fun x31 h32 k33 =>
p_lenL x31 fun x34 =>
loopB k (fun r35 l36 h37 =>
p_bin .lss fiLss (nthV l36 1) x34 fun x38 =>
joinL (fun j39 => p_if x38 (
j39 [] h37) (j28 [(nthV l36 0)] h37)) fun l40 h41 =>
joinL (fun j42 =>
p_iaddr 1 x31 (nthV l36 1) fun x45 =>
p_load1 x45 h41 fun x46 b47 =>
p_eq x46 (nthV A 0) fun x48 =>
p_if x48 (p_bin .add fiAdd (nthV l22 1) (vi 1) fun x49 =>
kr x49 h41) (j42 [(nthV l36 0)] h41)) fun l43 h44 =>
p_bin .add fiAdd (nthV l36 1) (vi 1) fun x50 =>
r35 [(nthV l43 0), x50] h44) [(nthV l22 0), (vi 0)] h32) fun l29 h30 =>
p_bin .add fiAdd (nthV l22 1) (vi 1) fun x51 =>
r21 [(nthV l29 0), x51] h30) [(vi 0), (vi 0)] h16) fun l19 h20 =>
kr (vi 0) h20) false
noncomputable def h114 : FBody := fun c D k A h kr kp => ifB (Nat.beq (lenV A) 1) (
p_load1 (.ptr 0 0) h fun x0 b1 =>
c 38 [(nthV A 0), x0, (vi 0)] h (fun x4 h5 =>
kr undefA h5) kp) false
noncomputable def h115 : FBody := fun c D k A h kr kp => ifB (Nat.beq (lenV A) 2) (
c 150 [(nthV A 0), (nthV A 1)] h (fun x2 h3 =>
p_bin .geq fiGeq x2 (vi 0) fun x4 =>
kr x4 h3) kp) false
noncomputable def h116 : FBody := fun c D k A h kr kp => ifB (Nat.beq (lenV A) 1) (
c 117 [(nthV A 0)] h (fun x2 h3 =>
p_not x2 fun x4 =>
kr x4 h3) kp) false
noncomputable def h117 : FBody := fun c D k A h kr kp => ifB (Nat.beq (lenV A) 1) (
p_bin .geq fiGeq (nthV A 0) (vi 1) fun x0 =>
joinV (fun j1 => p_yes x0 (j1 (nthV A 0) h) (j1 undefA h)) fun x2 h3 =>
joinV (fun j4 => p_yes x0 (p_bin .leq fiLeq x2 (vi 3) fun x7 =>
j4 x7 h3) (j4 undefA h3)) fun x5 h6 =>
p_pick x0 x5 vF fun x8 =>
kr x8 h6) false
noncomputable def h118 : FBody := fun c D k A h kr kp => ifB (Nat.beq (lenV A) 2) (
p_bin .geq fiGeq (nthV A 0) (vi 0) fun x0 =>
joinV (fun j1 => p_yes x0 (j1 (nthV A 0) h) (j1 undefA h)) fun x2 h3 =>
joinV (fun j4 => p_yes x0 (j4 (nthV A 1) h3) (j4 undefA h3)) fun x5 h6 =>
joinV (fun j7 => p_yes x0 (p_bin .lss fiLss x2 x5 fun x10 =>
j7 x10 h6) (j7 undefA h6)) fun x8 h9 =>
p_pick x0 x8 vF fun x11 =>
kr x11 h9) false
noncomputable def h119 : FBody := fun c D k A h kr kp => ifB (Nat.beq (lenV A) 3) (
p_gen (.box (.t 1)) [(1, (nthV A 1))] h fun x0 h1 k2 =>
p_eq (nthV A 2) (vi 0) fun x3 =>
p_if x3 (p_faddr 0 x0 fun x4 =>
p_load1 x4 h1 fun x5 b6 =>
p_eq x5 (vi 9) fun x7 =>
c 114 [x7] h1 (fun x10 h11 =>
p_loadN 9 x0 h11 fun x12 b13 =>
p_gen (.build [(vi 0), (vi 0), vS, (vi 0), (vi 0), (vi 0), (vi 0), (.int .u64 (.ofNat 0)), .nilSlice] []) [] h11 fun x14 h15 k16 =>
c 151 [x12, x14] h15 (fun x19 h20 =>
p_gen (.bslice 1 [(vi 0)] 1 [(0, 1, (.c (vi 1)))]) [] h20 fun x21 h22 k23 =>
p_loadN 9 x0 h22 fun x24 b25 =>
ifB (okAll (.rd b25) h22 h22 [⟨2, k23, h20, h22⟩]) (
p_faddr 8 x0 fun x26 =>
p_load1 x26 h22 fun x27 b28 =>
ifB (okAll (.rd b28) h22 h22 [⟨1, (.rd b25), h22, h22⟩, ⟨2, k23, h20, h22⟩]) (
p_lenL x27 fun x29 =>
c 73 [x21, x29] h22 (fun x32 h33 =>
ifB (okAll .big h22 h33 [⟨1, (.rd b25), h22, h22⟩]) (
c 152 [(nthV A 0), x24, x32] h33 (fun x36 h37 =>
kr undefA h37) kp) false) (fun p30 h31 => ifB (okAll .big h22 h31 [⟨1, (.rd b25), h22, h22⟩]) (
kp p30 h31) false)) false) false) kp) kp) (p_eq (nthV A 2) (vi 1) fun x38 =>
p_if x38 (p_loadN 9 x0 h1 fun x39 b40 =>
c 153 [(nthV A 0), x39] h1 (fun x43 h44 =>
kr undefA h44) kp) (p_eq (nthV A 2) (vi 3) fun x45 =>
p_if x45 (p_faddr 0 x0 fun x46 =>
p_load1 x46 h1 fun x47 b48 =>
p_eq x47 (vi 32) fun x49 =>
joinV (fun j50 => p_no x49 (p_faddr 0 x0 fun x53 =>
j50 x53 h1) (j50 undefA h1)) fun x51 h52 =>
joinV (fun j54 => p_no x49 (p_load1 x51 h52 fun x57 b58 =>
j54 x57 h52) (j54 undefA h52)) fun x55 h56 =>
joinV (fun j59 => p_no x49 (p_eq x55 (vi 33) fun x62 =>
j59 x62 h56) (j59 undefA h56)) fun x60 h61 =>
p_pick x49 vT x60 fun x63 =>
joinV (fun j64 => p_no x63 (p_faddr 0 x0 fun x67 =>
j64 x67 h61) (j64 undefA h61)) fun x65 h66 =>
joinV (fun j68 => p_no x63 (p_load1 x65 h66 fun x71 b72 =>
j68 x71 h66) (j68 undefA h66)) fun x69 h70 =>
joinV (fun j73 => p_no x63 (p_eq x69 (vi 34) fun x76 =>
j73 x76 h70) (j73 undefA h70)) fun x74 h75 =>
p_pick x63 vT x74 fun x77 =>
c 114 [x77] h75 (fun x80 h81 =>
p_loadN 9 x0 h81 fun x82 b83 =>
c 154 [(nthV A 0), x82] h81 (fun x86 h87 =>
kr undefA h87) kp) kp) (p_loadN 9 x0 h1 fun x88 b89 =>
c 154 [(nthV A 0), x88] h1 (fun x92 h93 =>
kr undefA h93) kp)))) false
noncomputable def h120 : FBody := fun c D k A h kr kp => ifB (Nat.beq (lenV A) 2) (
joinL (fun j0 => p_if vF (
p_gen (.cvi .u32 (.t 11)) [(11, (nthV A 0))] h fun x3 h4 k5 =>
p_gen (.cvi .u32 (.t 13)) [(13, (nthV A 1))] h4 fun x6 h7 k8 =>
c 155 [x3, x6] h7 (fun x11 h12 =>
p_ext x11 0 fun x13 =>
p_ext x11 1 fun x14 =>
p_gen (.cvi .u64 (.t 18)) [(18, x13)] h12 fun x15 h16 k17 =>
p_gen (.cvi .u64 (.t 20)) [(20, x14)] h16 fun x18 h19 k20 =>
kr (.tuple [x15, x18]) h19) kp) (j0 [(.int .u64 (.ofNat 0)), (.int .u64 (.ofNat 0))] h)) fun l1 h2 =>
c 156 [(nthV A 0), (nthV A 1)] h2 (fun x23 h24 =>
p_ext x23 0 fun x25 =>
p_ext x23 1 fun x26 =>
kr (.tuple [x25, x26]) h24) kp) false
noncomputable def h121 : FBody := fun c D k A h kr kp => ifB (Nat.beq (lenV A) 2) (
asNil (
p_faddr 8 (nthV A 0) fun x0 =>
p_load1 x0 h fun x1 b2 =>
c 129 [x1, (nthV A 1)] h (fun x5 h6 =>
p_bin .lss fiLss x5 (vi 0) fun x7 =>
joinL (fun j8 => p_if x7 (
kr (.int .i64 (.negSucc 0)) h6) (j8 [(vi 0)] h6)) fun l9 h10 =>
asNil (
p_faddr 9 (nthV A 0) fun x11 =>
p_load1 x11 h10 fun x12 b13 =>
p_iaddr 1 x12 x5 fun x14 =>
p_load1 x14 h10 fun x15 b16 =>
kr x15 h10) (nthV A 0)) kp) (nthV A 0)) false
noncomputable def h122 : FBody := fun c D k A h kr kp => ifB (Nat.beq (lenV A) 1) (
joinL (fun j0 =>
p_eq (nthV A 0) (vi 12) fun x3 =>
joinL (fun j4 => p_if x3 (
j4 [x3] h) (p_eq (nthV A 0) (vi 13) fun x7 =>
j4 [x7] h)) fun l5 h6 =>
p_if (nthV l5 0) (kr (vi 7) h6) (p_eq (nthV A 0) (vi 14) fun x8 =>
joinL (fun j9 => p_if x8 (
j9 [x8] h6) (p_eq (nthV A 0) (vi 15) fun x12 =>
j9 [x12] h6)) fun l10 h11 =>
p_if (nthV l10 0) (kr (vi 4) h11) (p_eq (nthV A 0) (vi 16) fun x13 =>
joinL (fun j14 => p_if x13 (
j14 [x13] h11) (p_eq (nthV A 0) (vi 17) fun x17 =>
j14 [x17] h11)) fun l15 h16 =>
p_if (nthV l15 0) (kr (vi 5) h16) (p_eq (nthV A 0) (vi 18) fun x18 =>
joinL (fun j19 => p_if x18 (
j19 [x18] h16) (p_eq (nthV A 0) (vi 19) fun x22 =>
p_if x22 (j19 [x22] h16) (p_eq (nthV A 0) (vi 20) fun x23 =>
j19 [x23] h16))) fun l20 h21 =>
p_if (nthV l20 0) (kr (vi 6) h21) (j0 [(vi 0)] h21))))) fun l1 h2 =>
kr (vi 0) h2) false
noncomputable def h123 : FBody := fun c D k A h kr kp => ifB (Nat.beq (lenV A) 4) (
(fun (x0 : AV) (h1 : AHeap) =>
asNil (
p_faddr 6 (nthV A 0) fun x2 =>
p_load1 x2 h1 fun x3 b4 =>
p_gen (.lookup (.one .str) (.agg [(vi 0), (vi 0), (vi 0)]) (.t 15) (.t 16) true) [(15, x3), (16, (nthV A 1))] h1 fun x5 h6 k7 =>
p_ext x5 0 fun x8 =>
p_ext x5 1 fun x9 =>
(fun (x10 : AV) (h11 : AHeap) =>
p_store 3 x10 x8 h11 fun h12 b13 =>
joinC (fun j14 => p_yes x9 (p_faddr 0 x10 fun x19 =>
j14 x19 h12 .free h12) (j14 undefA h12 .free h12)) fun x15 h16 k17 h18 =>
joinC (fun j20 => p_yes x9 (p_load1 x15 h16 fun x25 b26 =>
j20 x25 h16 (.rd b26) h16) (j20 undefA h16 .free h16)) fun x21 h22 k23 h24 =>
joinC (fun j27 => p_yes x9 (j27 (nthV A 2) h22 .free h22) (j27 undefA h22 .free h22)) fun x28 h29 k30 h31 =>
joinC (fun j32 => p_yes x9 (p_eq x21 x28 fun x37 =>
j32 x37 h29 .free h29) (j32 undefA h29 .free h29)) fun x33 h34 k35 h36 =>
p_pick x9 x33 vF fun x38 =>
joinC (fun j39 => p_yes x38 (j39 (nthV A 0) h34 .free h34) (j39 undefA h34 .free h34)) fun x40 h41 k42 h43 =>
joinC (fun j44 => p_yes x38 (j44 (nthV A 1) h41 .free h41) (j44 undefA h41 .free h41)) fun x45 h46 k47 h48 =>
joinC (fun j49 => p_yes x38 (c 121 [x40, x45] h46 (fun x58 h59 =>
j49 x58 h59 .big h46) (fun p54 h55 => p_load1 (.ptr 5 0) h55 fun x56 b57 =>
ifB (okAll (.rd b57) h55 h55 [⟨10, .big, h46, h55⟩, ⟨3, k23, h24, h22⟩]) (
kp p54 h55) false)) (j49 undefA h46 .free h46)) fun x50 h51 k52 h53 =>
joinC (fun j60 => p_yes x38 (p_bin .lss fiLss x50 (vi 0) fun x65 =>
j60 x65 h51 .free h51) (j60 undefA h51 .free h51)) fun x61 h62 k63 h64 =>
p_pick x38 x61 vF fun x66 =>
p_load1 (.ptr 5 0) h62 fun x67 b68 =>
ifB (okAll (.rd b68) h62 h62 [⟨10, k52, h53, h51⟩, ⟨3, k23, h24, h22⟩]) (
c 38 [x66, x67, (nthV A 3)] h62 (fun x71 h72 =>
p_loadN 3 x10 h72 fun x73 b74 =>
p_store 3 x0 x73 h72 fun h75 b76 =>
p_loadN 3 x0 h75 fun x77 b78 => kr x77 h75) kp) false) (.ptr h6.n (nat_lit 0)) (alQ h6 (.cells .own (nat_lit 0) [(vi 0), (vi 0), (vi 0)]))) (nthV A 0)) (.ptr h.n (nat_lit 0)) (alQ h (.cells .own (nat_lit 0) [(vi 0), (vi 0), (vi 0)]))) false
noncomputable def d124 : FDBody := fun c k A lv h K => ifB (Nat.beq (lenV A) 2) (
p_eqv true (.one .iface) (lvQ lv) .nilIface fun x0 =>
p_if x0 (p_gen (.tassert 185 (.agg [.nilIface, (vi 0)]) (.t 9)) [(9, (lvQ lv))] h fun x1 h2 k3 =>
p_ext x1 0 fun x4 =>
p_ext x1 1 fun x5 =>
(fun (x6 : AV) (h7 : AHeap) =>
p_store 2 x6 x4 h7 fun h8 b9 =>
p_not x5 fun x10 =>
joinL (fun j11 => p_if x10 (
asIf (fun t14 x15 => false) (lvQ lv)) (j11 [] h8)) fun l12 h13 =>
p_faddr 0 x6 fun x16 =>
p_loadN 2 x16 h13 fun x17 b18 =>
p_store 1 (nthV A 0) .nilSlice h13 fun h19 b20 =>
ifB (okAll (.wr b20) h13 h19 [⟨1, (.rd b18), h13, h13⟩]) (
p_store 2 (nthV A 1) x17 h19 fun h21 b22 =>
K h21) false) (.ptr h2.n (nat_lit 0)) (alQ h2 (.cells .own (nat_lit 0) [.nilIface, (vi 0)]))) (K h)) false
noncomputable def h125 : FBody := fun c D k A h kr kp => ifB (Nat.beq (lenV A) 1) (
loopB k (fun r0 l1 h2 =>
asNil (
p_faddr 1 (nthV A 0) fun x3 =>
p_load1 x3 h2 fun x4 b5 =>
c 157 [(nthV A 0), (.func (.func 158) [] [])] h2 (fun x8 h9 =>
asNil (
p_faddr 0 (nthV A 0) fun x10 =>
p_load1 x10 h9 fun x11 b12 =>
asNil (
p_faddr 1 (nthV A 0) fun x13 =>
p_load1 x13 h9 fun x14 b15 =>
ifB (okAll (.rd b15) h9 h9 [⟨3, (.rd b12), h9, h9⟩]) (
p_gen (.sls (.t 12) (some (.t 16)) none) [(12, x11), (16, x14)] h9 fun x16 h17 k18 =>
c 148 [x16, (.str [47, 47])] h17 (fun x21 h22 =>
joinL (fun j23 => p_if x21 (
c 157 [(nthV A 0), (.func (.func 159) [] [])] h22 (fun x28 h29 =>
j23 [] h29) kp) (j23 [] h22)) fun l24 h25 =>
asNil (
p_faddr 1 (nthV A 0) fun x30 =>
p_load1 x30 h25 fun x31 b32 =>
p_eq x31 x4 fun x33 =>
p_if x33 (kr undefA h25) (r0 [] h25)) (nthV A 0)) kp) false) (nthV A 0)) (nthV A 0)) kp) (nthV A 0)) [] h) false
noncomputable def h126 : FBody := fun c D k A h kr kp => ifB (Nat.beq (lenV A) 3) (
p_gen (.build [.nilIface, (vi 0)] [(0, 1, (.t 6)), (1, 1, (.t 7))]) [(6, (nthV A 1)), (7, (nthV A 2))] h fun x0 h1 k2 =>
p_gen (.build [.nilIface, (vi 0)] [(0, 2, (.t 8))]) [(8, x0)] h1 fun x3 h4 k5 =>
(fun (x6 : AV) => asIf (fun t7 x8 => kp (.iface t7 x8) h4) x6) (.iface 185 x3)) false
noncomputable def h127 : FBody := fun c D k A h kr kp => ifB (Nat.beq (lenV A) 1) (
(fun (x0 : AV) (h1 : AHeap) =>
joinL (fun j2 =>
c 160 [(nthV A 0), (.func (.func 161) [] [])] h1 (fun x7 h8 =>
p_if x7 (c 162 [(nthV A 0)] h8 (fun x11 h12 =>
p_store 5 x0 x11 h12 fun h13 b14 =>
p_loadN 5 x0 h13 fun x15 b16 => kr x15 h13) kp) (c 160 [(nthV A 0), (.func (.func 163) [] [])] h8 (fun x19 h20 =>
p_if x19 (c 164 [(nthV A 0)] h20 (fun x23 h24 =>
p_store 5 x0 x23 h24 fun h25 b26 =>
p_loadN 5 x0 h25 fun x27 b28 => kr x27 h25) kp) (asNil (
p_faddr 0 (nthV A 0) fun x29 =>
p_load1 x29 h20 fun x30 b31 =>
asNil (
p_faddr 1 (nthV A 0) fun x32 =>
p_load1 x32 h20 fun x33 b34 =>
ifB (okAll (.rd b34) h20 h20 [⟨3, (.rd b31), h20, h20⟩]) (
p_idxs x30 x33 fun x35 =>
p_eq x35 (.int .u8 (.ofNat 35)) fun x36 =>
p_if x36 (c 165 [(nthV A 0)] h20 (fun x39 h40 =>
p_store 5 x0 x39 h40 fun h41 b42 =>
p_loadN 5 x0 h41 fun x43 b44 => kr x43 h41) kp) (j2 [] h20)) false) (nthV A 0)) (nthV A 0))) kp)) kp) fun l3 h4 =>
c 166 [(nthV A 0)] h4 (fun x47 h48 =>
p_store 5 x0 x47 h48 fun h49 b50 =>
p_loadN 5 x0 h49 fun x51 b52 => kr x51 h49) kp) (.ptr h.n (nat_lit 0)) (alQ h (.cells .own (nat_lit 0) [(vi 0), vS, (vi 0), (.int .u64 (.ofNat 0)), (vi 0)]))) false
noncomputable def h128 : FBody := fun c D k A h kr kp => ifB (Nat.beq (lenV A) 2) (
c 129 [(nthV A 0), (nthV A 1)] h (fun x2 h3 =>
p_bin .geq fiGeq x2 (vi 0) fun x4 =>
kr x4 h3) kp) false
noncomputable def h129 : FBody := fun c D k A h kr kp => ifB (Nat.beq (lenV A) 2) (
p_lenL (nthV A 0) fun x0 =>
joinL (fun j1 =>
loopB k (fun r4 l5 h6 =>
p_bin .lss fiLss (nthV l5 1) x0 fun x7 =>
joinL (fun j8 => p_if x7 (
j8 [] h6) (j1 [(nthV l5 0)] h6)) fun l9 h10 =>
joinL (fun j11 =>
p_iaddr 1 (nthV A 0) (nthV l5 1) fun x14 =>
p_load1 x14 h10 fun x15 b16 =>
p_eq (nthV A 1) x15 fun x17 =>
p_if x17 (kr (nthV l5 1) h10) (j11 [(nthV l5 0)] h10)) fun l12 h13 =>
p_bin .add fiAdd (nthV l5 1) (vi 1) fun x18 =>
r4 [(nthV l12 0), x18] h13) [(vi 0), (vi 0)] h) fun l2 h3 =>
kr (.int .i64 (.negSucc 0)) h3) false
noncomputable def h130 : FBody := fun c D k A h kr kp => ifB (Nat.beq (lenV A) 2) (
p_gen (.bslice 1 [vS] 1 [(0, 1, (.t 6))]) [(6, (nthV A 1))] h fun x0 h1 k2 =>
c 84 [(nthV A 0), x0] h1 (fun x5 h6 =>
p_not x5 fun x7 =>
joinL (fun j8 => p_if x7 (
kr vF h6) (j8 [vF] h6)) fun l9 h10 =>
asNil (
p_faddr 0 (nthV A 0) fun x11 =>
p_load1 x11 h10 fun x12 b13 =>
p_gen (.slc 5 (.t 14) (some (.c (vi 1))) none none) [(14, x12)] h10 fun x14 h15 k16 =>
asNil (
p_faddr 0 (nthV A 0) fun x17 =>
p_store 1 x17 x14 h15 fun h18 b19 =>
kr vT h18) (nthV A 0)) (nthV A 0)) kp) false
noncomputable def h131 : FBody := fun c D k A h kr kp => ifB (Nat.beq (lenV A) 2) (
(fun (x0 : AV) (h1 : AHeap) =>
p_gen (.bslice 1 [vS] 1 [(0, 1, (.t 6))]) [(6, (nthV A 1))] h1 fun x2 h3 k4 =>
c 84 [(nthV A 0), x2] h3 (fun x7 h8 =>
p_not x7 fun x9 =>
joinL (fun j10 => p_if x9 (
c 83 [(nthV A 0)] h8 (fun x15 h16 =>
j10 [] h16) kp) (j10 [] h8)) fun l11 h12 =>
asNil (
p_faddr 2 (nthV A 0) fun x17 =>
p_load1 x17 h12 fun x18 b19 =>
p_eq x18 (vi 16) fun x20 =>
joinL (fun j21 => p_if x20 (
p_load1 (.ptr 4 0) h12 fun x24 b25 =>
c 49 [(nthV A 0)] h12 (fun x28 h29 =>
ifB (okAll .big h12 h29 [⟨0, (.rd b25), h12, h12⟩]) (
p_fld x28 4 fun x30 =>
p_gen (.build [.nilIface, (vi 0)] [(0, 1, (.t 17)), (1, 1, (.t 20))]) [(17, x24), (20, x30)] h29 fun x31 h32 k33 =>
p_gen (.build [.nilIface, (vi 0)] [(0, 2, (.t 21))]) [(21, x31)] h32 fun x34 h35 k36 =>
(fun (x37 : AV) => asIf (fun t38 x39 => kp (.iface t38 x39) h35) x37) (.iface 137 x34)) false) (fun p26 h27 => ifB (okAll .big h12 h27 [⟨0, (.rd b25), h12, h12⟩]) (
kp p26 h27) false)) (j21 [] h12)) fun l22 h23 =>
asNil (
p_faddr 2 (nthV A 0) fun x40 =>
p_load1 x40 h23 fun x41 b42 =>
p_bin .add fiAdd x41 (vi 1) fun x43 =>
asNil (
p_faddr 2 (nthV A 0) fun x44 =>
p_store 1 x44 x43 h23 fun h45 b46 =>
c 90 [(nthV A 0), (nthV A 1)] h45 (fun x49 h50 =>
p_store 5 x0 x49 h50 fun h51 b52 =>
p_loadN 5 x0 h51 fun x53 b54 => kr x53 h51) kp) (nthV A 0)) (nthV A 0)) (nthV A 0)) kp) (.ptr h.n (nat_lit 0)) (alQ h (.cells .own (nat_lit 0) [(vi 0), vS, (vi 0), (.int .u64 (.ofNat 0)), (vi 0)]))) false
noncomputable def h132 : FBody := fun c D k A h kr kp => ifB (Nat.beq (lenV A) 1) (
(fun (x0 : AV) (h1 : AHeap) =>
c 49 [(nthV A 0)] h1 (fun x4 h5 =>
p_fld x4 4 fun x6 =>
joinL (fun j7 =>
c 130 [(nthV A 0), (.str [105, 102])] h5 (fun x12 h13 =>
p_if x12 (c 96 [(nthV A 0)] h13 (fun x16 h17 =>
p_gen (.bslice 9 [(vi 0), (vi 0), vS, (vi 0), (vi 0), (vi 0), (vi 0), (.int .u64 (.ofNat 0)), .nilSlice] 1 [(0, 9, (.t 15))]) [(15, x16)] h17 fun x18 h19 k20 =>
p_gen (.build [(vi 0), (vi 0), vS, (vi 0), (vi 0), (vi 0), (vi 0), (.int .u64 (.ofNat 0)), .nilSlice] [(0, 1, (.c (vi 21))), (1, 1, (.t 13)), (8, 1, (.t 16))]) [(13, x6), (16, x18)] h19 fun x21 h22 k23 =>
(fun (x24 : AV) (h25 : AHeap) =>
p_store 9 x24 x21 h25 fun h26 b27 =>
p_faddr 8 x24 fun x28 =>
p_load1 x28 h26 fun x29 b30 =>
c 89 [(nthV A 0)] h26 (fun x33 h34 =>
ifB (okAll .big h26 h34 [⟨1, (.rd b30), h26, h26⟩]) (
p_gen (.bslice 9 [(vi 0), (vi 0), vS, (vi 0), (vi 0), (vi 0), (vi 0), (.int .u64 (.ofNat 0)), .nilSlice] 1 [(0, 9, (.t 21))]) [(21, x33)] h34 fun x35 h36 k37 =>
ifB (okAll k37 h34 h36 [⟨1, (.rd b30), h26, h26⟩]) (
p_gen (.append 9 96 (.t 19) (.t 22)) [(19, x29), (22, x35)] h36 fun x38 h39 k40 =>
p_faddr 8 x24 fun x41 =>
p_store 1 x41 x38 h39 fun h42 b43 =>
c 130 [(nthV A 0), (.str [101, 108, 115, 101])] h42 (fun x46 h47 =>
joinL (fun j48 => p_if x46 (
p_faddr 8 x24 fun x51 =>
p_load1 x51 h47 fun x52 b53 =>
c 89 [(nthV A 0)] h47 (fun x56 h57 =>
ifB (okAll .big h47 h57 [⟨1, (.rd b53), h47, h47⟩]) (
p_gen (.bslice 9 [(vi 0), (vi 0), vS, (vi 0), (vi 0), (vi 0), (vi 0), (.int .u64 (.ofNat 0)), .nilSlice] 1 [(0, 9, (.t 30))]) [(30, x56)] h57 fun x58 h59 k60 =>
ifB (okAll k60 h57 h59 [⟨1, (.rd b53), h47, h47⟩]) (
p_gen (.append 9 96 (.t 28) (.t 31)) [(28, x52), (31, x58)] h59 fun x61 h62 k63 =>
p_faddr 8 x24 fun x64 =>
p_store 1 x64 x61 h62 fun h65 b66 =>
j48 [] h65) false) false) (fun p54 h55 => ifB (okAll .big h47 h55 [⟨1, (.rd b53), h47, h47⟩]) (
kp p54 h55) false)) (j48 [] h47)) fun l49 h50 =>
p_loadN 9 x24 h50 fun x67 b68 =>
p_store 9 x0 x67 h50 fun h69 b70 =>
p_loadN 9 x0 h69 fun x71 b72 => kr x71 h69) kp) false) false) (fun p31 h32 => ifB (okAll .big h26 h32 [⟨1, (.rd b30), h26, h26⟩]) (
kp p31 h32) false)) (.ptr h22.n (nat_lit 0)) (alQ h22 (.cells .own (nat_lit 0) [(vi 0), (vi 0), vS, (vi 0), (vi 0), (vi 0), (vi 0), (.int .u64 (.ofNat 0)), .nilSlice]))) kp) (c 130 [(nthV A 0), (.str [119, 104, 105, 108, 101])] h13 (fun x75 h76 =>
p_if x75 (c 96 [(nthV A 0)] h76 (fun x79 h80 =>
p_gen (.bslice 9 [(vi 0), (vi 0), vS, (vi 0), (vi 0), (vi 0), (vi 0), (.int .u64 (.ofNat 0)), .nilSlice] 1 [(0, 9, (.t 40))]) [(40, x79)] h80 fun x81 h82 k83 =>
p_gen (.build [(vi 0), (vi 0), vS, (vi 0), (vi 0), (vi 0), (vi 0), (.int .u64 (.ofNat 0)), .nilSlice] [(0, 1, (.c (vi 22))), (1, 1, (.t 38)), (8, 1, (.t 41))]) [(38, x6), (41, x81)] h82 fun x84 h85 k86 =>
(fun (x87 : AV) (h88 : AHeap) =>
p_store 9 x87 x84 h88 fun h89 b90 =>
p_faddr 8 x87 fun x91 =>
p_load1 x91 h89 fun x92 b93 =>
c 89 [(nthV A 0)] h89 (fun x96 h97 =>
ifB (okAll .big h89 h97 [⟨1, (.rd b93), h89, h89⟩]) (
p_gen (.bslice 9 [(vi 0), (vi 0), vS, (vi 0), (vi 0), (vi 0), (vi 0), (.int .u64 (.ofNat 0)), .nilSlice] 1 [(0, 9, (.t 46))]) [(46, x96)] h97 fun x98 h99 k100 =>
ifB (okAll k100 h97 h99 [⟨1, (.rd b93), h89, h89⟩]) (
p_gen (.append 9 96 (.t 44) (.t 47)) [(44, x92), (47, x98)] h99 fun x101 h102 k103 =>
p_faddr 8 x87 fun x104 =>
p_store 1 x104 x101 h102 fun h105 b106 =>
p_loadN 9 x87 h105 fun x107 b108 =>
p_store 9 x0 x107 h105 fun h109 b110 =>
p_loadN 9 x0 h109 fun x111 b112 => kr x111 h109) false) false) (fun p94 h95 => ifB (okAll .big h89 h95 [⟨1, (.rd b93), h89, h89⟩]) (
kp p94 h95) false)) (.ptr h85.n (nat_lit 0)) (alQ h85 (.cells .own (nat_lit 0) [(vi 0), (vi 0), vS, (vi 0), (vi 0), (vi 0), (vi 0), (.int .u64 (.ofNat 0)), .nilSlice]))) kp) (j7 [] h76)) kp)) kp) fun l8 h9 =>
c 167 [(nthV A 0)] h9 (fun x115 h116 =>
(fun (x117 : AV) (h118 : AHeap) =>
p_store 9 x117 x115 h118 fun h119 b120 =>
c 90 [(nthV A 0), (.str [59])] h119 (fun x123 h124 =>
p_loadN 9 x117 h124 fun x125 b126 =>
p_store 9 x0 x125 h124 fun h127 b128 =>
p_loadN 9 x0 h127 fun x129 b130 => kr x129 h127) kp) (.ptr h116.n (nat_lit 0)) (alQ h116 (.cells .own (nat_lit 0) [(vi 0), (vi 0), vS, (vi 0), (vi 0), (vi 0), (vi 0), (.int .u64 (.ofNat 0)), .nilSlice]))) kp) kp) (.ptr h.n (nat_lit 0)) (alQ h (.cells .own (nat_lit 0) [(vi 0), (vi 0), vS, (vi 0), (vi 0), (vi 0), (vi 0), (.int .u64 (.ofNat 0)), .nilSlice]))) false
noncomputable def h133 : FBody := fun c D k A h kr kp => ifB (Nat.beq (lenV A) 2) (
c 90 [(nthV A 0), (nthV A 1)] h (fun x2 h3 =>
asNil (
p_faddr 2 (nthV A 0) fun x4 =>
p_load1 x4 h3 fun x5 b6 =>
p_bin .sub fiSub x5 (vi 1) fun x7 =>
asNil (
p_faddr 2 (nthV A 0) fun x8 =>
p_store 1 x8 x7 h3 fun h9 b10 =>
kr undefA h9) (nthV A 0)) (nthV A 0)) kp) false
noncomputable def h134 : FBody := fun c D k A h kr kp => ifB (Nat.beq (lenV A) 2) (
p_not (nthV A 0) fun x0 =>
p_if x0 (p_gen (.build [(vi 0)] [(0, 1, (.t 6))]) [(6, (nthV A 1))] h fun x1 h2 k3 =>
(fun (x4 : AV) => asIf (fun t5 x6 => kp (.iface t5 x6) h2) x4) (.iface 146 x1)) (kr undefA h)) false
noncomputable def h135 : FBody := fun c D k A h kr kp => ifB (Nat.beq (lenV A) 2) (
p_gen (.box (.t 1)) [(1, (nthV A 1))] h fun x0 h1 k2 =>
p_faddr 0 x0 fun x3 =>
p_load1 x3 h1 fun x4 b5 =>
joinL (fun j6 =>
p_eq x4 (vi 25) fun x9 =>
p_if x9 (kr (vi 1) h1) (p_eq x4 (vi 26) fun x10 =>
p_if x10 (kr (vi 2) h1) (p_eq x4 (vi 27) fun x11 =>
p_if x11 (kr (vi 3) h1) (p_eq x4 (vi 32) fun x12 =>
p_if x12 (asNil (
p_faddr 6 (nthV A 0) fun x13 =>
p_load1 x13 h1 fun x14 b15 =>
p_faddr 4 x0 fun x16 =>
p_load1 x16 h1 fun x17 b18 =>
ifB (okAll (.rd b18) h1 h1 [⟨3, (.rd b15), h1, h1⟩]) (
p_iaddr 1 x14 x17 fun x19 =>
p_load1 x19 h1 fun x20 b21 =>
kr x20 h1) false) (nthV A 0)) (p_eq x4 (vi 33) fun x22 =>
p_if x22 (asNil (
p_faddr 0 (nthV A 0) fun x23 =>
p_faddr 0 x23 fun x24 =>
p_load1 x24 h1 fun x25 b26 =>
p_faddr 4 x0 fun x27 =>
p_load1 x27 h1 fun x28 b29 =>
ifB (okAll (.rd b29) h1 h1 [⟨4, (.rd b26), h1, h1⟩]) (
p_iaddr 1 x25 x28 fun x30 =>
p_load1 x30 h1 fun x31 b32 =>
kr x31 h1) false) (nthV A 0)) (p_eq x4 (vi 34) fun x33 =>
p_if x33 (p_faddr 8 x0 fun x34 =>
p_load1 x34 h1 fun x35 b36 =>
p_iaddr 9 x35 (vi 0) fun x37 =>
p_faddr 3 x37 fun x38 =>
p_load1 x38 h1 fun x39 b40 =>
p_bin .neq fiNeq x39 (vi 1) fun x41 =>
joinL (fun j42 => p_if x41 (
kr (vi 0) h1) (j42 [(vi 0)] h1)) fun l43 h44 =>
asNil (
p_faddr 0 (nthV A 0) fun x45 =>
p_faddr 0 x45 fun x46 =>
p_load1 x46 h44 fun x47 b48 =>
p_faddr 4 x0 fun x49 =>
p_load1 x49 h44 fun x50 b51 =>
ifB (okAll (.rd b51) h44 h44 [⟨4, (.rd b48), h44, h44⟩]) (
p_iaddr 1 x47 x50 fun x52 =>
p_load1 x52 h44 fun x53 b54 =>
kr x53 h44) false) (nthV A 0)) (p_eq x4 (vi 30) fun x55 =>
p_if x55 (p_faddr 2 x0 fun x56 =>
p_load1 x56 h1 fun x57 b58 =>
p_faddr 8 x0 fun x59 =>
p_load1 x59 h1 fun x60 b61 =>
ifB (okAll (.rd b61) h1 h1 [⟨1, (.rd b58), h1, h1⟩]) (
p_iaddr 9 x60 (vi 0) fun x62 =>
p_faddr 3 x62 fun x63 =>
p_load1 x63 h1 fun x64 b65 =>
ifB (okAll (.rd b65) h1 h1 [⟨1, (.rd b58), h1, h1⟩]) (
c 168 [x57, x64] h1 (fun x68 h69 =>
kr x68 h69) kp) false) false) (j6 [(vi 0)] h1)))))))) fun l7 h8 =>
p_faddr 2 x0 fun x70 =>
p_load1 x70 h8 fun x71 b72 =>
p_faddr 8 x0 fun x73 =>
p_load1 x73 h8 fun x74 b75 =>
ifB (okAll (.rd b75) h8 h8 [⟨1, (.rd b72), h8, h8⟩]) (
p_iaddr 9 x74 (vi 0) fun x76 =>
p_faddr 3 x76 fun x77 =>
p_load1 x77 h8 fun x78 b79 =>
ifB (okAll (.rd b79) h8 h8 [⟨1, (.rd b72), h8, h8⟩]) (
p_faddr 8 x0 fun x80 =>
p_load1 x80 h8 fun x81 b82 =>
ifB (okAll (.rd b82) h8 h8 [⟨6, (.rd b79), h8, h8⟩, ⟨3, (.rd b75), h8, h8⟩, ⟨1, (.rd b72), h8, h8⟩]) (
p_iaddr 9 x81 (vi 1) fun x83 =>
p_faddr 3 x83 fun x84 =>
p_load1 x84 h8 fun x85 b86 =>
ifB (okAll (.rd b86) h8 h8 [⟨6, (.rd b79), h8, h8⟩, ⟨3, (.rd b75), h8, h8⟩, ⟨1, (.rd b72), h8, h8⟩]) (
c 169 [x71, x78, x85] h8 (fun x89 h90 =>
kr x89 h90) kp) false) false) false) false) false
noncomputable def h136 : FBody := fun c D k A h kr kp => ifB (Nat.beq (lenV A) 4) (
(fun (x0 : AV) (h1 : AHeap) =>
p_fn (nthV A 1) fun g6 a7 b8 => c g6 (appL a7 (appL [] b8)) h1 (fun x4 h5 =>
(fun (x9 : AV) (h10 : AHeap) =>
p_store 9 x9 x4 h10 fun h11 b12 =>
joinL (fun j13 =>
loopB k (fun r16 l17 h18 =>
c 84 [(nthV A 0), (nthV A 3)] h18 (fun x21 h22 =>
joinL (fun j23 => p_if x21 (
j23 [] h22) (j13 [] h22)) fun l24 h25 =>
c 49 [(nthV A 0)] h25 (fun x28 h29 =>
p_fld x28 1 fun x30 =>
asNil (
p_faddr 0 (nthV A 0) fun x31 =>
p_load1 x31 h29 fun x32 b33 =>
p_gen (.slc 5 (.t 23) (some (.c (vi 1))) none none) [(23, x32)] h29 fun x34 h35 k36 =>
asNil (
p_faddr 0 (nthV A 0) fun x37 =>
p_store 1 x37 x34 h35 fun h38 b39 =>
p_faddr 1 x9 fun x40 =>
p_load1 x40 h38 fun x41 b42 =>
p_loadN 9 x9 h38 fun x43 b44 =>
ifB (okAll (.rd b44) h38 h38 [⟨1, (.rd b42), h38, h38⟩]) (
p_fn (nthV A 1) fun g49 a50 b51 => c g49 (appL a50 (appL [] b51)) h38 (fun x47 h48 =>
ifB (okAll .big h38 h48 [⟨3, (.rd b44), h38, h38⟩, ⟨1, (.rd b42), h38, h38⟩]) (
p_gen (.bslice 9 [(vi 0), (vi 0), vS, (vi 0), (vi 0), (vi 0), (vi 0), (.int .u64 (.ofNat 0)), .nilSlice, (vi 0), (vi 0), vS, (vi 0), (vi 0), (vi 0), (vi 0), (.int .u64 (.ofNat 0)), .nilSlice] 2 [(0, 9, (.t 30)), (9, 9, (.t 32))]) [(30, x43), (32, x47)] h48 fun x52 h53 k54 =>
ifB (okAll k54 h48 h53 [⟨1, (.rd b42), h38, h38⟩]) (
p_gen (.build [(vi 0), (vi 0), vS, (vi 0), (vi 0), (vi 0), (vi 0), (.int .u64 (.ofNat 0)), .nilSlice] [(0, 1, (.c (vi 31))), (1, 1, (.t 28)), (2, 1, (.t 29)), (8, 1, (.t 33))]) [(28, x41), (29, x30), (33, x52)] h53 fun x55 h56 k57 =>
p_store 9 x9 x55 h56 fun h58 b59 =>
p_not (nthV A 2) fun x60 =>
p_if x60 (j13 [] h58) (r16 [] h58)) false) false) (fun p45 h46 => ifB (okAll .big h38 h46 [⟨3, (.rd b44), h38, h38⟩, ⟨1, (.rd b42), h38, h38⟩]) (
kp p45 h46) false)) false) (nthV A 0)) (nthV A 0)) kp) kp) [] h11) fun l14 h15 =>
p_loadN 9 x9 h15 fun x61 b62 =>
p_store 9 x0 x61 h15 fun h63 b64 =>
p_loadN 9 x0 h63 fun x65 b66 => kr x65 h63) (.ptr h5.n (nat_lit 0)) (alQ h5 (.cells .own (nat_lit 0) [(vi 0), (vi 0), vS, (vi 0), (vi 0), (vi 0), (vi 0), (.int .u64 (.ofNat 0)), .nilSlice]))) kp) (.ptr h.n (nat_lit 0)) (alQ h (.cells .own (nat_lit 0) [(vi 0), (vi 0), vS, (vi 0), (vi 0), (vi 0), (vi 0), (.int .u64 (.ofNat 0)), .nilSlice]))) false
noncomputable def h137 : FBody := fun c D k A h kr kp => ifB (Nat.beq (lenV A) 1) (
(fun (x0 : AV) (h1 : AHeap) =>
(fun (x2 : AV) => p_gen (.bslice 1 [vS] 1 [(0, 1, (.c (.str [38, 38])))]) [] h1 fun x3 h4 k5 =>
c 136 [(nthV A 0), x2, vT, x3] h4 (fun x8 h9 =>
p_store 9 x0 x8 h9 fun h10 b11 =>
p_loadN 9 x0 h10 fun x12 b13 => kr x12 h10) kp) (.func (.func 170) [(nthV A 0)] [])) (.ptr h.n (nat_lit 0)) (alQ h (.cells .own (nat_lit 0) [(vi 0), (vi 0), vS, (vi 0), (vi 0), (vi 0), (vi 0), (.int .u64 (.ofNat 0)), .nilSlice]))) false
noncomputable def h138 : FBody := fun c D k A h kr kp => ifB (Nat.beq (lenV A) 2) (
p_gen (.box (.t 0)) [(0, (nthV A 0))] h fun x0 h1 k2 =>
p_loadN 0 x0 h1 fun x3 b4 =>
p_bin .geq fiGeq (nthV A 1) (vi 1) fun x5 =>
joinV (fun j6 => p_yes x5 (j6 (nthV A 1) h1) (j6 undefA h1)) fun x7 h8 =>
joinV (fun j9 => p_yes x5 (p_bin .leq fiLeq x7 (vi 3) fun x12 =>
j9 x12 h8) (j9 undefA h8)) fun x10 h11 =>
p_pick x5 x10 vF fun x13 =>
c 98 [x3, x13] h11 (fun x16 h17 =>
kr undefA h17) kp) false
noncomputable def h139 : FBody := fun c D k A h kr kp => ifB (Nat.beq (lenV A) 2) (
p_gen (.box (.t 0)) [(0, (nthV A 0))] h fun x0 h1 k2 =>
p_gen (.box (.t 1)) [(1, (nthV A 1))] h1 fun x3 h4 k5 =>
p_loadN 0 x0 h4 fun x6 b7 =>
p_faddr 0 x3 fun x8 =>
p_load1 x8 h4 fun x9 b10 =>
p_eq x9 (vi 9) fun x11 =>
c 98 [x6, x11] h4 (fun x14 h15 =>
p_loadN 0 x0 h15 fun x16 b17 =>
p_loadN 9 x3 h15 fun x18 b19 =>
p_gen (.build [(vi 0), (vi 0), vS, (vi 0), (vi 0), (vi 0), (vi 0), (.int .u64 (.ofNat 0)), .nilSlice] []) [] h15 fun x20 h21 k22 =>
c 99 [x16, x18, x20] h21 (fun x25 h26 =>
p_faddr 8 x3 fun x27 =>
p_load1 x27 h26 fun x28 b29 =>
p_lenL x28 fun x30 =>
loopB k (fun r31 l32 h33 =>
p_bin .lss fiLss (nthV l32 0) x30 fun x34 =>
joinL (fun j35 => p_if x34 (
j35 [] h33) (kr undefA h33)) fun l36 h37 =>
joinL (fun j38 =>
p_iaddr 9 x28 (nthV l32 0) fun x41 =>
p_loadN 9 x41 h37 fun x42 b43 =>
(fun (x44 : AV) (h45 : AHeap) =>
p_store 9 x44 x42 h45 fun h46 b47 =>
p_loadN 0 x0 h46 fun x48 b49 =>
p_loadN 9 x44 h46 fun x50 b51 =>
c 171 [x48, x50] h46 (fun x54 h55 =>
j38 [] h55) kp) (.ptr h37.n (nat_lit 0)) (alQ h37 (.cells .own (nat_lit 0) [(vi 0), (vi 0), vS, (vi 0), (vi 0), (vi 0), (vi 0), (.int .u64 (.ofNat 0)), .nilSlice]))) fun l39 h40 =>
p_bin .add fiAdd (nthV l32 0) (vi 1) fun x56 =>
r31 [x56] h40) [(vi 0)] h26) kp) kp) false
noncomputable def h148 : FBody := fun c D k A h kr kp => ifB (Nat.beq (lenV A) 2) (
c 180 [(nthV A 0), (nthV A 1)] h (fun x2 h3 =>
kr x2 h3) kp) false
noncomputable def h150 : FBody := fun c D k A h kr kp => ifB (Nat.beq (lenV A) 2) (
p_lenL (nthV A 0) fun x0 =>
joinL (fun j1 =>
loopB k (fun r4 l5 h6 =>
p_bin .lss fiLss (nthV l5 1) x0 fun x7 =>
joinL (fun j8 => p_if x7 (
j8 [] h6) (j1 [(nthV l5 0)] h6)) fun l9 h10 =>
joinL (fun j11 =>
p_iaddr 1 (nthV A 0) (nthV l5 1) fun x14 =>
p_load1 x14 h10 fun x15 b16 =>
p_fn (nthV A 1) fun g21 a22 b23 => c g21 (appL a22 (appL [x15] b23)) h10 (fun x19 h20 =>
p_if x19 (kr (nthV l5 1) h20) (j11 [(nthV l5 0)] h20)) kp) fun l12 h13 =>
p_bin .add fiAdd (nthV l5 1) (vi 1) fun x24 =>
r4 [(nthV l12 0), x24] h13) [(vi 0), (vi 0)] h) fun l2 h3 =>
kr (.int .i64 (.negSucc 0)) h3) false
noncomputable def h151 : FBody := fun c D k A h kr kp => ifB (Nat.beq (lenV A) 2) (
p_gen (.box (.t 0)) [(0, (nthV A 0))] h fun x0 h1 k2 =>
p_gen (.box (.t 1)) [(1, (nthV A 1))] h1 fun x3 h4 k5 =>
p_faddr 4 x0 fun x6 =>
p_load1 x6 h4 fun x7 b8 =>
p_faddr 4 x3 fun x9 =>
p_load1 x9 h4 fun x10 b11 =>
p_eq x7 x10 fun x12 =>
joinV (fun j13 => p_yes x12 (p_faddr 5 x0 fun x16 =>
j13 x16 h4) (j13 undefA h4)) fun x14 h15 =>
joinV (fun j17 => p_yes x12 (p_load1 x14 h15 fun x20 b21 =>
j17 x20 h15) (j17 undefA h15)) fun x18 h19 =>
joinV (fun j22 => p_yes x12 (p_faddr 5 x3 fun x25 =>
j22 x25 h19) (j22 undefA h19)) fun x23 h24 =>
joinV (fun j26 => p_yes x12 (p_load1 x23 h24 fun x29 b30 =>
j26 x29 h24) (j26 undefA h24)) fun x27 h28 =>
joinV (fun j31 => p_yes x12 (p_eq x18 x27 fun x34 =>
j31 x34 h28) (j31 undefA h28)) fun x32 h33 =>
p_pick x12 x32 vF fun x35 =>
joinV (fun j36 => p_yes x35 (p_faddr 6 x0 fun x39 =>
j36 x39 h33) (j36 undefA h33)) fun x37 h38 =>
joinV (fun j40 => p_yes x35 (p_load1 x37 h38 fun x43 b44 =>
j40 x43 h38) (j40 undefA h38)) fun x41 h42 =>
joinV (fun j45 => p_yes x35 (p_faddr 6 x3 fun x48 =>
j45 x48 h42) (j45 undefA h42)) fun x46 h47 =>
joinV (fun j49 => p_yes x35 (p_load1 x46 h47 fun x52 b53 =>
j49 x52 h47) (j49 undefA h47)) fun x50 h51 =>
joinV (fun j54 => p_yes x35 (p_eq x41 x50 fun x57 =>
j54 x57 h51) (j54 undefA h51)) fun x55 h56 =>
p_pick x35 x55 vF fun x58 =>
joinV (fun j59 => p_yes x58 (p_faddr 7 x0 fun x62 =>
j59 x62 h56) (j59 undefA h56)) fun x60 h61 =>
joinV (fun j63 => p_yes x58 (p_load1 x60 h61 fun x66 b67 =>
j63 x66 h61) (j63 undefA h61)) fun x64 h65 =>
joinV (fun j68 => p_yes x58 (p_faddr 7 x3 fun x71 =>
j68 x71 h65) (j68 undefA h65)) fun x69 h70 =>
joinV (fun j72 => p_yes x58 (p_load1 x69 h70 fun x75 b76 =>
j72 x75 h70) (j72 undefA h70)) fun x73 h74 =>
joinV (fun j77 => p_yes x58 (p_eq x64 x73 fun x80 =>
j77 x80 h74) (j77 undefA h74)) fun x78 h79 =>
p_pick x58 x78 vF fun x81 =>
c 114 [x81] h79 (fun x84 h85 =>
kr undefA h85) kp) false
noncomputable def h152 : FBody := fun c D k A h kr kp => ifB (Nat.beq (lenV A) 3) (
p_gen (.box (.t 1)) [(1, (nthV A 1))] h fun x0 h1 k2 =>
p_faddr 8 x0 fun x3 =>
p_load1 x3 h1 fun x4 b5 =>
p_lenL x4 fun x6 =>
p_lenL (nthV A 2) fun x7 =>
p_eq x6 x7 fun x8 =>
c 114 [x8] h1 (fun x11 h12 =>
p_faddr 8 x0 fun x13 =>
p_load1 x13 h12 fun x14 b15 =>
p_lenL x14 fun x16 =>
loopB k (fun r17 l18 h19 =>
p_bin .lss fiLss (nthV l18 0) x16 fun x20 =>
joinL (fun j21 => p_if x20 (
j21 [] h19) (kr undefA h19)) fun l22 h23 =>
joinL (fun j24 =>
p_iaddr 9 x14 (nthV l18 0) fun x27 =>
p_loadN 9 x27 h23 fun x28 b29 =>
(fun (x30 : AV) (h31 : AHeap) =>
p_store 9 x30 x28 h31 fun h32 b33 =>
p_loadN 9 x30 h32 fun x34 b35 =>
p_iaddr 1 (nthV A 2) (nthV l18 0) fun x36 =>
p_load1 x36 h32 fun x37 b38 =>
ifB (okAll (.rd b38) h32 h32 [⟨1, (.rd b35), h32, h32⟩]) (
c 119 [(nthV A 0), x34, x37] h32 (fun x41 h42 =>
j24 [] h42) kp) false) (.ptr h23.n (nat_lit 0)) (alQ h23 (.cells .own (nat_lit 0) [(vi 0), (vi 0), vS, (vi 0), (vi 0), (vi 0), (vi 0), (.int .u64 (.ofNat 0)), .nilSlice]))) fun l25 h26 =>
p_bin .add fiAdd (nthV l18 0) (vi 1) fun x43 =>
r17 [x43] h26) [(vi 0)] h12) kp) false
noncomputable def h153 : FBody := fun c D k A h kr kp => ifB (Nat.beq (lenV A) 2) (
p_gen (.box (.t 1)) [(1, (nthV A 1))] h fun x0 h1 k2 =>
p_gen (.build [(vi 0), (vi 0), vS, (vi 0), (vi 0), (vi 0), (vi 0), (.int .u64 (.ofNat 0)), .nilSlice] []) [] h1 fun x3 h4 k5 =>
(fun (x6 : AV) (h7 : AHeap) =>
p_store 9 x6 x3 h7 fun h8 b9 =>
p_faddr 0 x0 fun x10 =>
p_load1 x10 h8 fun x11 b12 =>
c 122 [x11] h8 (fun x15 h16 =>
p_bin .neq fiNeq x15 (vi 0) fun x17 =>
joinL (fun j18 => p_if x17 (
p_faddr 6 x0 fun x21 =>
p_load1 x21 h16 fun x22 b23 =>
p_faddr 6 x6 fun x24 =>
p_store 1 x24 x22 h16 fun h25 b26 =>
j18 [] h25) (j18 [] h16)) fun l19 h20 =>
p_faddr 0 x0 fun x27 =>
p_load1 x27 h20 fun x28 b29 =>
p_eq x28 (vi 11) fun x30 =>
joinL (fun j31 => p_if x30 (
p_faddr 4 x0 fun x34 =>
p_load1 x34 h20 fun x35 b36 =>
p_faddr 4 x6 fun x37 =>
p_store 1 x37 x35 h20 fun h38 b39 =>
j31 [] h38) (j31 [] h20)) fun l32 h33 =>
p_loadN 9 x0 h33 fun x40 b41 =>
p_loadN 9 x6 h33 fun x42 b43 =>
c 151 [x40, x42] h33 (fun x46 h47 =>
p_faddr 0 x0 fun x48 =>
p_load1 x48 h47 fun x49 b50 =>
p_eq x49 (vi 10) fun x51 =>
p_if x51 (p_loadN 9 x0 h47 fun x52 b53 =>
p_gen (.bslice 1 [(vi 0), (vi 0)] 2 [(0, 1, (.c (vi 3))), (1, 1, (.c (vi 2)))]) [] h47 fun x54 h55 k56 =>
c 152 [(nthV A 0), x52, x54] h55 (fun x59 h60 =>
kr undefA h60) kp) (p_eq x49 (vi 11) fun x61 =>
p_if x61 (p_faddr 4 x0 fun x62 =>
p_load1 x62 h47 fun x63 b64 =>
asNil (
p_faddr 6 (nthV A 0) fun x65 =>
p_faddr 1 x65 fun x66 =>
p_load1 x66 h47 fun x67 b68 =>
ifB (okAll (.rd b68) h47 h47 [⟨1, (.rd b64), h47, h47⟩]) (
p_bin .geq fiGeq x63 x67 fun x69 =>
joinC (fun j70 => p_yes x69 (p_faddr 4 x0 fun x75 =>
j70 x75 h47 .free h47) (j70 undefA h47 .free h47)) fun x71 h72 k73 h74 =>
joinC (fun j76 => p_yes x69 (p_load1 x71 h72 fun x81 b82 =>
j76 x81 h72 (.rd b82) h72) (j76 undefA h72 .free h72)) fun x77 h78 k79 h80 =>
joinC (fun j83 => p_yes x69 (j83 (nthV A 0) h78 .free h78) (j83 undefA h78 .free h78)) fun x84 h85 k86 h87 =>
joinC (fun j88 => p_yes x69 (asNil (
j88 x84 h85 .free h85) x84) (j88 undefA h85 .free h85)) fun x89 h90 k91 h92 =>
joinC (fun j93 => p_yes x69 (p_faddr 6 x89 fun x98 =>
j93 x98 h90 .free h90) (j93 undefA h90 .free h90)) fun x94 h95 k96 h97 =>
joinC (fun j99 => p_yes x69 (p_faddr 2 x94 fun x104 =>
j99 x104 h95 .free h95) (j99 undefA h95 .free h95)) fun x100 h101 k102 h103 =>
joinC (fun j105 => p_yes x69 (p_load1 x100 h101 fun x110 b111 =>
ifB (okAll (.rd b111) h101 h101 [⟨10, k79, h80, h78⟩]) (
j105 x110 h101 (.rd b111) h101) false) (j105 undefA h101 .free h101)) fun x106 h107 k108 h109 =>
joinC (fun j112 => p_yes x69 (p_lenL x106 fun x117 =>
j112 x117 h107 .free h107) (j112 undefA h107 .free h107)) fun x113 h114 k115 h116 =>
joinC (fun j118 => p_yes x69 (p_bin .lss fiLss x77 x113 fun x123 =>
j118 x123 h114 .free h114) (j118 undefA h114 .free h114)) fun x119 h120 k121 h122 =>
p_pick x69 x119 vF fun x124 =>
c 114 [x124] h120 (fun x127 h128 =>
p_loadN 9 x0 h128 fun x129 b130 =>
p_gen (.bslice 1 [(vi 0)] 1 [(0, 1, (.c (vi 2)))]) [] h128 fun x131 h132 k133 =>
c 152 [(nthV A 0), x129, x131] h132 (fun x136 h137 =>
kr undefA h137) kp) kp) false) (nthV A 0)) (p_eq x49 (vi 12) fun x138 =>
joinL (fun j139 => p_if x138 (
j139 [x138] h47) (p_eq x49 (vi 13) fun x142 =>
j139 [x142] h47)) fun l140 h141 =>
p_if (nthV l140 0) (p_faddr 6 x0 fun x143 =>
p_load1 x143 h141 fun x144 b145 =>
asNil (
p_faddr 0 (nthV A 0) fun x146 =>
p_faddr 4 x146 fun x147 =>
p_load1 x147 h141 fun x148 b149 =>
ifB (okAll (.rd b149) h141 h141 [⟨1, (.rd b145), h141, h141⟩]) (
p_lenL x148 fun x150 =>
c 118 [x144, x150] h141 (fun x153 h154 =>
c 114 [x153] h154 (fun x157 h158 =>
p_gen (.bslice 1 [(vi 0)] 1 [(0, 1, (.c (vi 2)))]) [] h158 fun x159 h160 k161 =>
p_loadN 9 x0 h160 fun x162 b163 =>
ifB (okAll (.rd b163) h160 h160 [⟨2, k161, h158, h160⟩]) (
p_faddr 8 x0 fun x164 =>
p_load1 x164 h160 fun x165 b166 =>
ifB (okAll (.rd b166) h160 h160 [⟨1, (.rd b163), h160, h160⟩, ⟨2, k161, h158, h160⟩]) (
p_lenL x165 fun x167 =>
c 73 [x159, x167] h160 (fun x170 h171 =>
ifB (okAll .big h160 h171 [⟨1, (.rd b163), h160, h160⟩]) (
c 152 [(nthV A 0), x162, x170] h171 (fun x174 h175 =>
kr undefA h175) kp) false) (fun p168 h169 => ifB (okAll .big h160 h169 [⟨1, (.rd b163), h160, h160⟩]) (
kp p168 h169) false)) false) false) kp) kp) false) (nthV A 0)) (p_eq x49 (vi 14) fun x176 =>
joinL (fun j177 => p_if x176 (
j177 [x176] h141) (p_eq x49 (vi 15) fun x180 =>
j177 [x180] h141)) fun l178 h179 =>
p_if (nthV l178 0) (p_faddr 6 x0 fun x181 =>
p_load1 x181 h179 fun x182 b183 =>
asNil (
p_faddr 0 (nthV A 0) fun x184 =>
p_faddr 1 x184 fun x185 =>
p_load1 x185 h179 fun x186 b187 =>
ifB (okAll (.rd b187) h179 h179 [⟨1, (.rd b183), h179, h179⟩]) (
c 118 [x182, x186] h179 (fun x190 h191 =>
c 114 [x190] h191 (fun x194 h195 =>
p_loadN 9 x0 h195 fun x196 b197 =>
c 152 [(nthV A 0), x196, .nilSlice] h195 (fun x200 h201 =>
kr undefA h201) kp) kp) kp) false) (nthV A 0)) (p_eq x49 (vi 16) fun x202 =>
p_if x202 (p_faddr 6 x0 fun x203 =>
p_load1 x203 h179 fun x204 b205 =>
asNil (
p_faddr 0 (nthV A 0) fun x206 =>
p_faddr 3 x206 fun x207 =>
p_load1 x207 h179 fun x208 b209 =>
ifB (okAll (.rd b209) h179 h179 [⟨1, (.rd b205), h179, h179⟩]) (
p_lenL x208 fun x210 =>
c 118 [x204, x210] h179 (fun x213 h214 =>
c 114 [x213] h214 (fun x217 h218 =>
p_loadN 9 x0 h218 fun x219 b220 =>
p_gen (.bslice 1 [(vi 0)] 1 [(0, 1, (.c (vi 2)))]) [] h218 fun x221 h222 k223 =>
c 152 [(nthV A 0), x219, x221] h222 (fun x226 h227 =>
kr undefA h227) kp) kp) kp) false) (nthV A 0)) (p_eq x49 (vi 17) fun x228 =>
p_if x228 (p_faddr 6 x0 fun x229 =>
p_load1 x229 h179 fun x230 b231 =>
asNil (
p_faddr 0 (nthV A 0) fun x232 =>
p_faddr 3 x232 fun x233 =>
p_load1 x233 h179 fun x234 b235 =>
ifB (okAll (.rd b235) h179 h179 [⟨1, (.rd b231), h179, h179⟩]) (
p_lenL x234 fun x236 =>
c 118 [x230, x236] h179 (fun x239 h240 =>
c 114 [x239] h240 (fun x243 h244 =>
p_loadN 9 x0 h244 fun x245 b246 =>
p_gen (.bslice 1 [(vi 0)] 1 [(0, 1, (.c (vi 3)))]) [] h244 fun x247 h248 k249 =>
c 152 [(nthV A 0), x245, x247] h248 (fun x252 h253 =>
kr undefA h253) kp) kp) kp) false) (nthV A 0)) (p_eq x49 (vi 18) fun x254 =>
joinL (fun j255 => p_if x254 (
j255 [x254] h179) (p_eq x49 (vi 19) fun x258 =>
j255 [x258] h179)) fun l256 h257 =>
p_if (nthV l256 0) (p_faddr 6 x0 fun x259 =>
p_load1 x259 h257 fun x260 b261 =>
asNil (
p_faddr 0 (nthV A 0) fun x262 =>
p_faddr 2 x262 fun x263 =>
p_load1 x263 h257 fun x264 b265 =>
ifB (okAll (.rd b265) h257 h257 [⟨1, (.rd b261), h257, h257⟩]) (
c 118 [x260, x264] h257 (fun x268 h269 =>
c 114 [x268] h269 (fun x272 h273 =>
p_loadN 9 x0 h273 fun x274 b275 =>
p_gen (.bslice 1 [(vi 0)] 1 [(0, 1, (.c (vi 2)))]) [] h273 fun x276 h277 k278 =>
c 152 [(nthV A 0), x274, x276] h277 (fun x281 h282 =>
kr undefA h282) kp) kp) kp) false) (nthV A 0)) (p_eq x49 (vi 20) fun x283 =>
p_if x283 (p_faddr 6 x0 fun x284 =>
p_load1 x284 h257 fun x285 b286 =>
asNil (
p_faddr 0 (nthV A 0) fun x287 =>
p_faddr 2 x287 fun x288 =>
p_load1 x288 h257 fun x289 b290 =>
ifB (okAll (.rd b290) h257 h257 [⟨1, (.rd b286), h257, h257⟩]) (
c 118 [x285, x289] h257 (fun x293 h294 =>
c 114 [x293] h294 (fun x297 h298 =>
p_loadN 9 x0 h298 fun x299 b300 =>
p_gen (.bslice 1 [(vi 0)] 1 [(0, 1, (.c (vi 3)))]) [] h298 fun x301 h302 k303 =>
c 152 [(nthV A 0), x299, x301] h302 (fun x306 h307 =>
kr undefA h307) kp) kp) kp) false) (nthV A 0)) (p_eq x49 (vi 21) fun x308 =>
p_if x308 (p_faddr 8 x0 fun x309 =>
p_load1 x309 h257 fun x310 b311 =>
p_lenL x310 fun x312 =>
p_eq x312 (vi 3) fun x313 =>
joinL (fun j314 => p_if x313 (
p_loadN 9 x0 h257 fun x317 b318 =>
p_gen (.bslice 1 [(vi 0), (vi 0), (vi 0)] 3 [(0, 1, (.c (vi 2))), (1, 1, (.c (vi 0))), (2, 1, (.c (vi 0)))]) [] h257 fun x319 h320 k321 =>
c 152 [(nthV A 0), x317, x319] h320 (fun x324 h325 =>
kr undefA h325) kp) (j314 [] h257)) fun l315 h316 =>
p_loadN 9 x0 h316 fun x326 b327 =>
p_gen (.bslice 1 [(vi 0), (vi 0)] 2 [(0, 1, (.c (vi 2))), (1, 1, (.c (vi 0)))]) [] h316 fun x328 h329 k330 =>
c 152 [(nthV A 0), x326, x328] h329 (fun x333 h334 =>
kr undefA h334) kp) (p_eq x49 (vi 22) fun x335 =>
p_if x335 (p_loadN 9 x0 h257 fun x336 b337 =>
p_gen (.bslice 1 [(vi 0), (vi 0)] 2 [(0, 1, (.c (vi 2))), (1, 1, (.c (vi 0)))]) [] h257 fun x338 h339 k340 =>
c 152 [(nthV A 0), x336, x338] h339 (fun x343 h344 =>
kr undefA h344) kp) (p_eq x49 (vi 23) fun x345 =>
p_if x345 (p_loadN 9 x0 h257 fun x346 b347 =>
c 152 [(nthV A 0), x346, .nilSlice] h257 (fun x350 h351 =>
kr undefA h351) kp) (p_eq x49 (vi 24) fun x352 =>
p_if x352 (p_loadN 9 x0 h257 fun x353 b354 =>
p_gen (.bslice 1 [(vi 0)] 1 [(0, 1, (.c (vi 2)))]) [] h257 fun x355 h356 k357 =>
c 152 [(nthV A 0), x353, x355] h356 (fun x360 h361 =>
kr undefA h361) kp) (c 114 [vF] h257 (fun x364 h365 =>
kr undefA h365) kp))))))))))))) kp) kp) (.ptr h4.n (nat_lit 0)) (alQ h4 (.cells .own (nat_lit 0) [(vi 0), (vi 0), vS, (vi 0), (vi 0), (vi 0), (vi 0), (.int .u64 (.ofNat 0)), .nilSlice]))) false
noncomputable def h154 : FBody := fun c D k A h kr kp => ifB (Nat.beq (lenV A) 2) (
p_gen (.box (.t 0)) [(0, (nthV A 0))] h fun x0 h1 k2 =>
p_gen (.box (.t 1)) [(1, (nthV A 1))] h1 fun x3 h4 k5 =>
p_gen (.build [(vi 0), (vi 0), vS, (vi 0), (vi 0), (vi 0), (vi 0), (.int .u64 (.ofNat 0)), .nilSlice] []) [] h4 fun x6 h7 k8 =>
(fun (x9 : AV) (h10 : AHeap) =>
p_store 9 x9 x6 h10 fun h11 b12 =>
p_faddr 0 x3 fun x13 =>
p_load1 x13 h11 fun x14 b15 =>
joinL (fun j16 =>
p_eq x14 (vi 25) fun x19 =>
p_if x19 (p_faddr 4 x3 fun x20 =>
p_load1 x20 h11 fun x21 b22 =>
p_bin .geq fiGeq x21 (vi 0) fun x23 =>
c 114 [x23] h11 (fun x26 h27 =>
p_faddr 4 x3 fun x28 =>
p_load1 x28 h27 fun x29 b30 =>
p_faddr 4 x9 fun x31 =>
p_store 1 x31 x29 h27 fun h32 b33 =>
p_load1 x0 h32 fun x34 b35 =>
p_loadN 9 x3 h32 fun x36 b37 =>
c 152 [x34, x36, .nilSlice] h32 (fun x40 h41 =>
j16 [] h41) kp) kp) (p_eq x14 (vi 26) fun x42 =>
p_if x42 (p_faddr 7 x3 fun x43 =>
p_load1 x43 h11 fun x44 b45 =>
p_faddr 7 x9 fun x46 =>
p_store 1 x46 x44 h11 fun h47 b48 =>
p_load1 x0 h47 fun x49 b50 =>
p_loadN 9 x3 h47 fun x51 b52 =>
c 152 [x49, x51, .nilSlice] h47 (fun x55 h56 =>
j16 [] h56) kp) (p_eq x14 (vi 27) fun x57 =>
p_if x57 (p_faddr 4 x3 fun x58 =>
p_load1 x58 h11 fun x59 b60 =>
p_eq x59 (vi 0) fun x61 =>
joinV (fun j62 => p_no x61 (p_faddr 4 x3 fun x65 =>
j62 x65 h11) (j62 undefA h11)) fun x63 h64 =>
joinV (fun j66 => p_no x61 (p_load1 x63 h64 fun x69 b70 =>
j66 x69 h64) (j66 undefA h64)) fun x67 h68 =>
joinV (fun j71 => p_no x61 (p_eq x67 (vi 1) fun x74 =>
j71 x74 h68) (j71 undefA h68)) fun x72 h73 =>
p_pick x61 vT x72 fun x75 =>
c 114 [x75] h73 (fun x78 h79 =>
p_faddr 4 x3 fun x80 =>
p_load1 x80 h79 fun x81 b82 =>
p_faddr 4 x9 fun x83 =>
p_store 1 x83 x81 h79 fun h84 b85 =>
p_load1 x0 h84 fun x86 b87 =>
p_loadN 9 x3 h84 fun x88 b89 =>
c 152 [x86, x88, .nilSlice] h84 (fun x92 h93 =>
j16 [] h93) kp) kp) (p_eq x14 (vi 32) fun x94 =>
p_if x94 (p_faddr 4 x3 fun x95 =>
p_load1 x95 h11 fun x96 b97 =>
p_load1 x0 h11 fun x98 b99 =>
ifB (okAll (.rd b99) h11 h11 [⟨1, (.rd b97), h11, h11⟩]) (
asNil (
p_faddr 6 x98 fun x100 =>
p_faddr 2 x100 fun x101 =>
p_load1 x101 h11 fun x102 b103 =>
ifB (okAll (.rd b103) h11 h11 [⟨1, (.rd b97), h11, h11⟩]) (
p_lenL x102 fun x104 =>
c 118 [x96, x104] h11 (fun x107 h108 =>
c 114 [x107] h108 (fun x111 h112 =>
p_faddr 4 x3 fun x113 =>
p_load1 x113 h112 fun x114 b115 =>
p_faddr 4 x9 fun x116 =>
p_store 1 x116 x114 h112 fun h117 b118 =>
p_load1 x0 h117 fun x119 b120 =>
p_loadN 9 x3 h117 fun x121 b122 =>
c 152 [x119, x121, .nilSlice] h117 (fun x125 h126 =>
j16 [] h126) kp) kp) kp) false) x98) false) (p_eq x14 (vi 33) fun x127 =>
p_if x127 (p_faddr 4 x3 fun x128 =>
p_load1 x128 h11 fun x129 b130 =>
p_load1 x0 h11 fun x131 b132 =>
ifB (okAll (.rd b132) h11 h11 [⟨1, (.rd b130), h11, h11⟩]) (
asNil (
p_faddr 0 x131 fun x133 =>
p_faddr 0 x133 fun x134 =>
p_load1 x134 h11 fun x135 b136 =>
ifB (okAll (.rd b136) h11 h11 [⟨1, (.rd b130), h11, h11⟩]) (
p_lenL x135 fun x137 =>
c 118 [x129, x137] h11 (fun x140 h141 =>
c 114 [x140] h141 (fun x144 h145 =>
p_faddr 4 x3 fun x146 =>
p_load1 x146 h145 fun x147 b148 =>
p_faddr 4 x9 fun x149 =>
p_store 1 x149 x147 h145 fun h150 b151 =>
p_load1 x0 h150 fun x152 b153 =>
p_loadN 9 x3 h150 fun x154 b155 =>
c 152 [x152, x154, .nilSlice] h150 (fun x158 h159 =>
j16 [] h159) kp) kp) kp) false) x131) false) (p_eq x14 (vi 34) fun x160 =>
p_if x160 (p_faddr 5 x3 fun x161 =>
p_load1 x161 h11 fun x162 b163 =>
p_bin .geq fiGeq x162 (vi 1) fun x164 =>
joinC (fun j165 => p_yes x164 (p_faddr 5 x3 fun x170 =>
j165 x170 h11 .free h11) (j165 undefA h11 .free h11)) fun x166 h167 k168 h169 =>
joinC (fun j171 => p_yes x164 (p_load1 x166 h167 fun x176 b177 =>
j171 x176 h167 (.rd b177) h167) (j171 undefA h167 .free h167)) fun x172 h173 k174 h175 =>
joinC (fun j178 => p_yes x164 (p_bin .leq fiLeq x172 (vi 64) fun x183 =>
j178 x183 h173 .free h173) (j178 undefA h173 .free h173)) fun x179 h180 k181 h182 =>
p_pick x164 x179 vF fun x184 =>
joinC (fun j185 => p_yes x184 (p_faddr 4 x3 fun x190 =>
j185 x190 h180 .free h180) (j185 undefA h180 .free h180)) fun x186 h187 k188 h189 =>
joinC (fun j191 => p_yes x184 (p_load1 x186 h187 fun x196 b197 =>
j191 x196 h187 (.rd b197) h187) (j191 undefA h187 .free h187)) fun x192 h193 k194 h195 =>
joinC (fun j198 => p_yes x184 (p_bin .geq fiGeq x192 (vi 0) fun x203 =>
j198 x203 h193 .free h193) (j198 undefA h193 .free h193)) fun x199 h200 k201 h202 =>
p_pick x184 x199 vF fun x204 =>
joinC (fun j205 => p_yes x204 (p_faddr 4 x3 fun x210 =>
j205 x210 h200 .free h200) (j205 undefA h200 .free h200)) fun x206 h207 k208 h209 =>
joinC (fun j211 => p_yes x204 (p_load1 x206 h207 fun x216 b217 =>
j211 x216 h207 (.rd b217) h207) (j211 undefA h207 .free h207)) fun x212 h213 k214 h215 =>
joinC (fun j218 => p_yes x204 (p_load1 x0 h213 fun x223 b224 =>
ifB (okAll (.rd b224) h213 h213 [⟨15, k214, h215, h213⟩]) (
j218 x223 h213 (.rd b224) h213) false) (j218 undefA h213 .free h213)) fun x219 h220 k221 h222 =>
joinC (fun j225 => p_yes x204 (asNil (
j225 x219 h220 .free h220) x219) (j225 undefA h220 .free h220)) fun x226 h227 k228 h229 =>
joinC (fun j230 => p_yes x204 (p_faddr 0 x226 fun x235 =>
j230 x235 h227 .free h227) (j230 undefA h227 .free h227)) fun x231 h232 k233 h234 =>
joinC (fun j236 => p_yes x204 (p_faddr 0 x231 fun x241 =>
j236 x241 h232 .free h232) (j236 undefA h232 .free h232)) fun x237 h238 k239 h240 =>
joinC (fun j242 => p_yes x204 (p_load1 x237 h238 fun x247 b248 =>
ifB (okAll (.rd b248) h238 h238 [⟨15, k214, h215, h213⟩]) (
j242 x247 h238 (.rd b248) h238) false) (j242 undefA h238 .free h238)) fun x243 h244 k245 h246 =>
joinC (fun j249 => p_yes x204 (p_lenL x243 fun x254 =>
j249 x254 h244 .free h244) (j249 undefA h244 .free h244)) fun x250 h251 k252 h253 =>
joinC (fun j255 => p_yes x204 (p_faddr 5 x3 fun x260 =>
j255 x260 h251 .free h251) (j255 undefA h251 .free h251)) fun x256 h257 k258 h259 =>
joinC (fun j261 => p_yes x204 (p_load1 x256 h257 fun x266 b267 =>
ifB (okAll (.rd b267) h257 h257 [⟨20, k245, h246, h244⟩, ⟨16, k221, h222, h220⟩, ⟨15, k214, h215, h213⟩]) (
j261 x266 h257 (.rd b267) h257) false) (j261 undefA h257 .free h257)) fun x262 h263 k264 h265 =>
joinC (fun j268 => p_yes x204 (p_bin .sub fiSub x250 x262 fun x273 =>
j268 x273 h263 .free h263) (j268 undefA h263 .free h263)) fun x269 h270 k271 h272 =>
joinC (fun j274 => p_yes x204 (p_bin .leq fiLeq x212 x269 fun x279 =>
j274 x279 h270 .free h270) (j274 undefA h270 .free h270)) fun x275 h276 k277 h278 =>
p_pick x204 x275 vF fun x280 =>
c 114 [x280] h276 (fun x283 h284 =>
p_load1 x0 h284 fun x285 b286 =>
asNil (
p_faddr 0 x285 fun x287 =>
p_faddr 0 x287 fun x288 =>
p_load1 x288 h284 fun x289 b290 =>
p_faddr 4 x3 fun x291 =>
p_load1 x291 h284 fun x292 b293 =>
ifB (okAll (.rd b293) h284 h284 [⟨4, (.rd b290), h284, h284⟩, ⟨0, (.rd b286), h284, h284⟩]) (
p_faddr 4 x3 fun x294 =>
p_load1 x294 h284 fun x295 b296 =>
ifB (okAll (.rd b296) h284 h284 [⟨6, (.rd b293), h284, h284⟩, ⟨4, (.rd b290), h284, h284⟩, ⟨0, (.rd b286), h284, h284⟩]) (
p_faddr 5 x3 fun x297 =>
p_load1 x297 h284 fun x298 b299 =>
ifB (okAll (.rd b299) h284 h284 [⟨8, (.rd b296), h284, h284⟩, ⟨6, (.rd b293), h284, h284⟩, ⟨4, (.rd b290), h284, h284⟩, ⟨0, (.rd b286), h284, h284⟩]) (
p_bin .add fiAdd x295 x298 fun x300 =>
p_gen (.slc 1 (.t 116) (some (.t 118)) (some (.t 123)) none) [(116, x289), (118, x292), (123, x300)] h284 fun x301 h302 k303 =>
(fun (x304 : AV) => c 115 [x301, x304] h302 (fun x307 h308 =>
p_not x307 fun x309 =>
c 114 [x309] h308 (fun x312 h313 =>
p_faddr 4 x3 fun x314 =>
p_load1 x314 h313 fun x315 b316 =>
p_faddr 5 x3 fun x317 =>
p_load1 x317 h313 fun x318 b319 =>
ifB (okAll (.rd b319) h313 h313 [⟨1, (.rd b316), h313, h313⟩]) (
p_faddr 4 x9 fun x320 =>
p_store 1 x320 x315 h313 fun h321 b322 =>
ifB (okAll (.wr b322) h313 h321 [⟨3, (.rd b319), h313, h313⟩]) (
p_faddr 5 x9 fun x323 =>
p_store 1 x323 x318 h321 fun h324 b325 =>
p_load1 x0 h324 fun x326 b327 =>
p_loadN 9 x3 h324 fun x328 b329 =>
p_gen (.bslice 1 [(vi 0)] 1 [(0, 1, (.c (vi 2)))]) [] h324 fun x330 h331 k332 =>
c 152 [x326, x328, x330] h331 (fun x335 h336 =>
j16 [] h336) kp) false) false) kp) kp) (.func (.func 181) [] [x0, x3])) false) false) false) x285) kp) (p_eq x14 (vi 30) fun x337 =>
p_if x337 (p_gen (.bslice 1 [vS, vS, vS, vS] 4 [(0, 1, (.c (.str [45]))), (1, 1, (.c (.str [33]))), (2, 1, (.c (.str [105, 110, 116]))), (3, 1, (.c (.str [102, 108, 111, 97, 116])))]) [] h11 fun x338 h339 k340 =>
p_faddr 2 x3 fun x341 =>
p_load1 x341 h339 fun x342 b343 =>
c 128 [x338, x342] h339 (fun x346 h347 =>
c 114 [x346] h347 (fun x350 h351 =>
p_load1 x0 h351 fun x352 b353 =>
p_loadN 9 x3 h351 fun x354 b355 =>
p_gen (.bslice 1 [(vi 0)] 1 [(0, 1, (.c (vi 2)))]) [] h351 fun x356 h357 k358 =>
c 152 [x352, x354, x356] h357 (fun x361 h362 =>
j16 [] h362) kp) kp) kp) (p_eq x14 (vi 31) fun x363 =>
p_if x363 (p_gen (.bslice 1 [vS, vS, vS, vS, vS, vS, vS, vS, vS, vS, vS, vS, vS] 13 [(0, 1, (.c (.str [124, 124]))), (1, 1, (.c (.str [38, 38]))), (2, 1, (.c (.str [61, 61]))), (3, 1, (.c (.str [33, 61]))), (4, 1, (.c (.str [60]))), (5, 1, (.c (.str [60, 61]))), (6, 1, (.c (.str [62]))), (7, 1, (.c (.str [62, 61]))), (8, 1, (.c (.str [43]))), (9, 1, (.c (.str [45]))), (10, 1, (.c (.str [42]))), (11, 1, (.c (.str [47]))), (12, 1, (.c (.str [37])))]) [] h11 fun x364 h365 k366 =>
p_faddr 2 x3 fun x367 =>
p_load1 x367 h365 fun x368 b369 =>
c 128 [x364, x368] h365 (fun x372 h373 =>
c 114 [x372] h373 (fun x376 h377 =>
p_load1 x0 h377 fun x378 b379 =>
p_loadN 9 x3 h377 fun x380 b381 =>
p_gen (.bslice 1 [(vi 0), (vi 0)] 2 [(0, 1, (.c (vi 2))), (1, 1, (.c (vi 2)))]) [] h377 fun x382 h383 k384 =>
c 152 [x378, x380, x382] h383 (fun x387 h388 =>
j16 [] h388) kp) kp) kp) (c 114 [vF] h11 (fun x391 h392 =>
j16 [] h392) kp))))))))) fun l17 h18 =>
p_loadN 9 x3 h18 fun x393 b394 =>
p_loadN 9 x9 h18 fun x395 b396 =>
c 151 [x393, x395] h18 (fun x399 h400 =>
kr undefA h400) kp) (.ptr h7.n (nat_lit 0)) (alQ h7 (.cells .own (nat_lit 0) [(vi 0), (vi 0), vS, (vi 0), (vi 0), (vi 0), (vi 0), (.int .u64 (.ofNat 0)), .nilSlice]))) false
noncomputable def h155 : FBody := fun c D k A h kr kp => ifB (Nat.beq (lenV A) 2) (
p_gen (.cvi .u64 (.t 7)) [(7, (nthV A 0))] h fun x0 h1 k2 =>
p_gen (.cvi .u64 (.t 9)) [(9, (nthV A 1))] h1 fun x3 h4 k5 =>
p_gen (.bin .mul (.t 8) (.t 10)) [(8, x0), (10, x3)] h4 fun x6 h7 k8 =>
p_gen (.bin .shr (.t 12) (.c (.int .u64 (.ofNat 32)))) [(12, x6)] h7 fun x9 h10 k11 =>
p_gen (.cvi .u32 (.t 13)) [(13, x9)] h10 fun x12 h13 k14 =>
p_gen (.cvi .u32 (.t 15)) [(15, x6)] h13 fun x15 h16 k17 =>
kr (.tuple [x12, x15]) h16) false
noncomputable def h156 : FBody := fun c D k A h kr kp => ifB (Nat.beq (lenV A) 2) (
p_gen (.bin .and (.t 14) (.c (.int .u64 (.ofNat 4294967295)))) [(14, (nthV A 0))] h fun x0 h1 k2 =>
p_gen (.bin .shr (.t 16) (.c (.int .u64 (.ofNat 32)))) [(16, (nthV A 0))] h1 fun x3 h4 k5 =>
p_gen (.bin .and (.t 18) (.c (.int .u64 (.ofNat 4294967295)))) [(18, (nthV A 1))] h4 fun x6 h7 k8 =>
p_gen (.bin .shr (.t 20) (.c (.int .u64 (.ofNat 32)))) [(20, (nthV A 1))] h7 fun x9 h10 k11 =>
p_gen (.bin .mul (.t 22) (.t 23)) [(22, x0), (23, x6)] h10 fun x12 h13 k14 =>
p_gen (.bin .mul (.t 25) (.t 26)) [(25, x3), (26, x6)] h13 fun x15 h16 k17 =>
p_gen (.bin .shr (.t 28) (.c (.int .u64 (.ofNat 32)))) [(28, x12)] h16 fun x18 h19 k20 =>
p_bin .add fiAdd x15 x18 fun x21 =>
p_gen (.bin .and (.t 31) (.c (.int .u64 (.ofNat 4294967295)))) [(31, x21)] h19 fun x22 h23 k24 =>
p_gen (.bin .shr (.t 33) (.c (.int .u64 (.ofNat 32)))) [(33, x21)] h23 fun x25 h26 k27 =>
p_gen (.bin .mul (.t 36) (.t 37)) [(36, x0), (37, x9)] h26 fun x28 h29 k30 =>
p_bin .add fiAdd x22 x28 fun x31 =>
p_gen (.bin .mul (.t 40) (.t 41)) [(40, x3), (41, x9)] h29 fun x32 h33 k34 =>
p_bin .add fiAdd x32 x25 fun x35 =>
p_gen (.bin .shr (.t 45) (.c (.int .u64 (.ofNat 32)))) [(45, x31)] h33 fun x36 h37 k38 =>
p_bin .add fiAdd x35 x36 fun x39 =>
p_gen (.bin .mul (.t 48) (.t 49)) [(48, (nthV A 0)), (49, (nthV A 1))] h37 fun x40 h41 k42 =>
kr (.tuple [x39, x40]) h41) false
noncomputable def h157 : FBody := fun c D k A h kr kp => ifB (Nat.beq (lenV A) 2) (
asNil (
p_faddr 1 (nthV A 0) fun x0 =>
p_load1 x0 h fun x1 b2 =>
joinL (fun j3 =>
loopB k (fun r6 l7 h8 =>
c 160 [(nthV A 0), (nthV A 1)] h8 (fun x11 h12 =>
joinL (fun j13 => p_if x11 (
j13 [] h12) (j3 [] h12)) fun l14 h15 =>
asNil (
p_faddr 1 (nthV A 0) fun x16 =>
p_load1 x16 h15 fun x17 b18 =>
p_bin .add fiAdd x17 (vi 1) fun x19 =>
asNil (
p_faddr 1 (nthV A 0) fun x20 =>
p_store 1 x20 x19 h15 fun h21 b22 =>
r6 [] h21) (nthV A 0)) (nthV A 0)) kp) [] h) fun l4 h5 =>
asNil (
p_faddr 0 (nthV A 0) fun x23 =>
p_load1 x23 h5 fun x24 b25 =>
asNil (
p_faddr 1 (nthV A 0) fun x26 =>
p_load1 x26 h5 fun x27 b28 =>
ifB (okAll (.rd b28) h5 h5 [⟨3, (.rd b25), h5, h5⟩]) (
p_gen (.sls (.t 23) (some (.t 24)) (some (.t 28))) [(23, x24), (24, x1), (28, x27)] h5 fun x29 h30 k31 =>
kr x29 h30) false) (nthV A 0)) (nthV A 0)) (nthV A 0)) false
noncomputable def h158 : FBody := fun c D k A h kr kp => ifB (Nat.beq (lenV A) 1) (
p_eq (nthV A 0) (.int .u8 (.ofNat 32)) fun x0 =>
joinV (fun j1 => p_no x0 (j1 (nthV A 0) h) (j1 undefA h)) fun x2 h3 =>
joinV (fun j4 => p_no x0 (p_eq x2 (.int .u8 (.ofNat 9)) fun x7 =>
j4 x7 h3) (j4 undefA h3)) fun x5 h6 =>
p_pick x0 vT x5 fun x8 =>
joinV (fun j9 => p_no x8 (j9 (nthV A 0) h6) (j9 undefA h6)) fun x10 h11 =>
joinV (fun j12 => p_no x8 (p_eq x10 (.int .u8 (.ofNat 10)) fun x15 =>
j12 x15 h11) (j12 undefA h11)) fun x13 h14 =>
p_pick x8 vT x13 fun x16 =>
joinV (fun j17 => p_no x16 (j17 (nthV A 0) h14) (j17 undefA h14)) fun x18 h19 =>
joinV (fun j20 => p_no x16 (p_eq x18 (.int .u8 (.ofNat 13)) fun x23 =>
j20 x23 h19) (j20 undefA h19)) fun x21 h22 =>
p_pick x16 vT x21 fun x24 =>
kr x24 h22) false
noncomputable def h159 : FBody := fun c D k A h kr kp => ifB (Nat.beq (lenV A) 1) (
p_bin .neq fiNeq (nthV A 0) (.int .u8 (.ofNat 10)) fun x0 =>
kr x0 h) false
noncomputable def h160 : FBody := fun c D k A h kr kp => ifB (Nat.beq (lenV A) 2) (
asNil (
p_faddr 1 (nthV A 0) fun x0 =>
p_load1 x0 h fun x1 b2 =>
asNil (
p_faddr 0 (nthV A 0) fun x3 =>
p_load1 x3 h fun x4 b5 =>
ifB (okAll (.rd b5) h h [⟨3, (.rd b2), h, h⟩]) (
p_lenS x4 fun x6 =>
p_bin .lss fiLss x1 x6 fun x7 =>
joinC (fun j8 => p_yes x7 (j8 (nthV A 1) h .free h) (j8 undefA h .free h)) fun x9 h10 k11 h12 =>
joinC (fun j13 => p_yes x7 (j13 (nthV A 0) h10 .free h10) (j13 undefA h10 .free h10)) fun x14 h15 k16 h17 =>
joinC (fun j18 => p_yes x7 (asNil (
j18 x14 h15 .free h15) x14) (j18 undefA h15 .free h15)) fun x19 h20 k21 h22 =>
joinC (fun j23 => p_yes x7 (p_faddr 0 x19 fun x28 =>
j23 x28 h20 .free h20) (j23 undefA h20 .free h20)) fun x24 h25 k26 h27 =>
joinC (fun j29 => p_yes x7 (p_load1 x24 h25 fun x34 b35 =>
j29 x34 h25 (.rd b35) h25) (j29 undefA h25 .free h25)) fun x30 h31 k32 h33 =>
joinC (fun j36 => p_yes x7 (j36 (nthV A 0) h31 .free h31) (j36 undefA h31 .free h31)) fun x37 h38 k39 h40 =>
joinC (fun j41 => p_yes x7 (asNil (
j41 x37 h38 .free h38) x37) (j41 undefA h38 .free h38)) fun x42 h43 k44 h45 =>
joinC (fun j46 => p_yes x7 (p_faddr 1 x42 fun x51 =>
j46 x51 h43 .free h43) (j46 undefA h43 .free h43)) fun x47 h48 k49 h50 =>
joinC (fun j52 => p_yes x7 (p_load1 x47 h48 fun x57 b58 =>
ifB (okAll (.rd b58) h48 h48 [⟨15, k32, h33, h31⟩]) (
j52 x57 h48 (.rd b58) h48) false) (j52 undefA h48 .free h48)) fun x53 h54 k55 h56 =>
joinC (fun j59 => p_yes x7 (p_idxs x30 x53 fun x64 =>
j59 x64 h54 .free h54) (j59 undefA h54 .free h54)) fun x60 h61 k62 h63 =>
joinC (fun j65 => p_yes x7 (p_fn x9 fun g74 a75 b76 => c g74 (appL a75 (appL [x60] b76)) h61 (fun x72 h73 =>
j65 x72 h73 .big h61) kp) (j65 undefA h61 .free h61)) fun x66 h67 k68 h69 =>
p_pick x7 x66 vF fun x77 =>
kr x77 h67) false) (nthV A 0)) (nthV A 0)) false
noncomputable def h161 : FBody := fun c D k A h kr kp => ifB (Nat.beq (lenV A) 1) (
p_bin .geq fiGeq (nthV A 0) (.int .u8 (.ofNat 97)) fun x0 =>
joinV (fun j1 => p_yes x0 (j1 (nthV A 0) h) (j1 undefA h)) fun x2 h3 =>
joinV (fun j4 => p_yes x0 (p_bin .leq fiLeq x2 (.int .u8 (.ofNat 122)) fun x7 =>
j4 x7 h3) (j4 undefA h3)) fun x5 h6 =>
p_pick x0 x5 vF fun x8 =>
joinV (fun j9 => p_no x8 (j9 (nthV A 0) h6) (j9 undefA h6)) fun x10 h11 =>
joinV (fun j12 => p_no x8 (p_bin .geq fiGeq x10 (.int .u8 (.ofNat 65)) fun x15 =>
j12 x15 h11) (j12 undefA h11)) fun x13 h14 =>
joinV (fun j16 => p_no x8 (j16 x13 h14) (j16 undefA h14)) fun x17 h18 =>
joinV (fun j19 => p_yes x17 (j19 (nthV A 0) h18) (j19 undefA h18)) fun x20 h21 =>
joinV (fun j22 => p_yes x17 (p_bin .leq fiLeq x20 (.int .u8 (.ofNat 90)) fun x25 =>
j22 x25 h21) (j22 undefA h21)) fun x23 h24 =>
joinV (fun j26 => p_no x8 (p_pick x17 x23 vF fun x29 =>
j26 x29 h24) (j26 undefA h24)) fun x27 h28 =>
p_pick x8 vT x27 fun x30 =>
joinV (fun j31 => p_no x30 (j31 (nthV A 0) h28) (j31 undefA h28)) fun x32 h33 =>
joinV (fun j34 => p_no x30 (p_eq x32 (.int .u8 (.ofNat 95)) fun x37 =>
j34 x37 h33) (j34 undefA h33)) fun x35 h36 =>
p_pick x30 vT x35 fun x38 =>
kr x38 h36) false
noncomputable def h162 : FBody := fun c D k A h kr kp => ifB (Nat.beq (lenV A) 1) (
(fun (x0 : AV) (h1 : AHeap) =>
asNil (
p_faddr 1 (nthV A 0) fun x2 =>
p_load1 x2 h1 fun x3 b4 =>
p_gen (.build [(vi 0), vS, (vi 0), (.int .u64 (.ofNat 0)), (vi 0)] [(0, 1, (.c (vi 1))), (4, 1, (.t 7))]) [(7, x3)] h1 fun x5 h6 k7 =>
(fun (x8 : AV) (h9 : AHeap) =>
p_store 5 x8 x5 h9 fun h10 b11 =>
c 157 [(nthV A 0), (.func (.func 182) [] [])] h10 (fun x14 h15 =>
p_faddr 1 x8 fun x16 =>
p_store 1 x16 x14 h15 fun h17 b18 =>
p_faddr 1 x8 fun x19 =>
p_load1 x19 h17 fun x20 b21 =>
p_lenS x20 fun x22 =>
p_bin .gtr fiGtr x22 (vi 24) fun x23 =>
joinL (fun j24 => p_if x23 (
p_load1 (.ptr 7 0) h17 fun x27 b28 =>
p_faddr 4 x8 fun x29 =>
p_load1 x29 h17 fun x30 b31 =>
c 126 [(nthV A 0), x27, x30] h17 (fun x34 h35 =>
j24 [] h35) kp) (j24 [] h17)) fun l25 h26 =>
p_faddr 1 x8 fun x36 =>
p_load1 x36 h26 fun x37 b38 =>
c 183 [x37] h26 (fun x41 h42 =>
joinL (fun j43 => p_if x41 (
p_faddr 0 x8 fun x46 =>
p_store 1 x46 (vi 2) h42 fun h47 b48 =>
j43 [] h47) (j43 [] h42)) fun l44 h45 =>
p_loadN 5 x8 h45 fun x49 b50 =>
p_store 5 x0 x49 h45 fun h51 b52 =>
p_loadN 5 x0 h51 fun x53 b54 => kr x53 h51) kp) kp) (.ptr h6.n (nat_lit 0)) (alQ h6 (.cells .own (nat_lit 0) [(vi 0), vS, (vi 0), (.int .u64 (.ofNat 0)), (vi 0)]))) (nthV A 0)) (.ptr h.n (nat_lit 0)) (alQ h (.cells .own (nat_lit 0) [(vi 0), vS, (vi 0), (.int .u64 (.ofNat 0)), (vi 0)]))) false
noncomputable def h163 : FBody := fun c D k A h kr kp => ifB (Nat.beq (lenV A) 1) (
p_bin .geq fiGeq (nthV A 0) (.int .u8 (.ofNat 48)) fun x0 =>
joinV (fun j1 => p_yes x0 (j1 (nthV A 0) h) (j1 undefA h)) fun x2 h3 =>
joinV (fun j4 => p_yes x0 (p_bin .leq fiLeq x2 (.int .u8 (.ofNat 57)) fun x7 =>
j4 x7 h3) (j4 undefA h3)) fun x5 h6 =>
p_pick x0 x5 vF fun x8 =>
kr x8 h6) false
noncomputable def h164 : FBody := fun c D k A h kr kp => ifB (Nat.beq (lenV A) 1) (
(fun (x0 : AV) (h1 : AHeap) =>
asNil (
p_faddr 1 (nthV A 0) fun x2 =>
p_load1 x2 h1 fun x3 b4 =>
p_gen (.build [(vi 0), vS, (vi 0), (.int .u64 (.ofNat 0)), (vi 0)] [(0, 1, (.c (vi 3))), (4, 1, (.t 10))]) [(10, x3)] h1 fun x5 h6 k7 =>
(fun (x8 : AV) (h9 : AHeap) =>
p_store 5 x8 x5 h9 fun h10 b11 =>
p_faddr 1 x8 fun x12 =>
p_store 1 x12 (.str [48]) h10 fun h13 b14 =>
asNil (
p_faddr 0 (nthV A 0) fun x15 =>
p_load1 x15 h13 fun x16 b17 =>
asNil (
p_faddr 1 (nthV A 0) fun x18 =>
p_load1 x18 h13 fun x19 b20 =>
ifB (okAll (.rd b20) h13 h13 [⟨3, (.rd b17), h13, h13⟩]) (
p_idxs x16 x19 fun x21 =>
p_eq x21 (.int .u8 (.ofNat 48)) fun x22 =>
joinL (fun j23 => p_if x22 (
asNil (
p_faddr 1 (nthV A 0) fun x26 =>
p_load1 x26 h13 fun x27 b28 =>
p_bin .add fiAdd x27 (vi 1) fun x29 =>
asNil (
p_faddr 1 (nthV A 0) fun x30 =>
p_store 1 x30 x29 h13 fun h31 b32 =>
j23 [] h31) (nthV A 0)) (nthV A 0)) (c 157 [(nthV A 0), (.func (.func 163) [] [])] h13 (fun x35 h36 =>
p_faddr 1 x8 fun x37 =>
p_store 1 x37 x35 h36 fun h38 b39 =>
j23 [] h38) kp)) fun l24 h25 =>
p_faddr 1 x8 fun x40 =>
p_load1 x40 h25 fun x41 b42 =>
p_lenS x41 fun x43 =>
joinL (fun j44 =>
loopB k (fun r47 l48 h49 =>
p_bin .lss fiLss (nthV l48 1) x43 fun x50 =>
joinL (fun j51 => p_if x50 (
j51 [] h49) (j44 [(nthV l48 0)] h49)) fun l52 h53 =>
joinL (fun j54 =>
p_faddr 1 x8 fun x57 =>
p_load1 x57 h53 fun x58 b59 =>
p_idxs x58 (nthV l48 1) fun x60 =>
p_bin .sub fiSub x60 (.int .u8 (.ofNat 48)) fun x61 =>
p_gen (.cvi .i64 (.t 43)) [(43, x61)] h53 fun x62 h63 k64 =>
joinV (fun j65 => p_no (nthV l48 0) (p_faddr 2 x8 fun x68 =>
j65 x68 h63) (j65 undefA h63)) fun x66 h67 =>
joinV (fun j69 => p_no (nthV l48 0) (p_load1 x66 h67 fun x72 b73 =>
j69 x72 h67) (j69 undefA h67)) fun x70 h71 =>
joinV (fun j74 => p_no (nthV l48 0) (j74 x62 h71) (j74 undefA h71)) fun x75 h76 =>
joinV (fun j77 => p_no (nthV l48 0) (p_bin .sub fiSub (vi 9223372036854775807) x75 fun x80 =>
j77 x80 h76) (j77 undefA h76)) fun x78 h79 =>
joinV (fun j81 => p_no (nthV l48 0) (p_gen (.bin .quo (.t 50) (.c (vi 10))) [(50, x78)] h79 fun x84 h85 k86 =>
j81 x84 h85) (j81 undefA h79)) fun x82 h83 =>
joinV (fun j87 => p_no (nthV l48 0) (p_bin .gtr fiGtr x70 x82 fun x90 =>
j87 x90 h83) (j87 undefA h83)) fun x88 h89 =>
p_pick (nthV l48 0) vT x88 fun x91 =>
p_faddr 2 x8 fun x92 =>
p_load1 x92 h89 fun x93 b94 =>
p_gen (.bin .mul (.c (vi 10)) (.t 55)) [(55, x93)] h89 fun x95 h96 k97 =>
p_bin .add fiAdd x95 x62 fun x98 =>
p_faddr 2 x8 fun x99 =>
p_store 1 x99 x98 h96 fun h100 b101 =>
j54 [x91] h100) fun l55 h56 =>
p_bin .add fiAdd (nthV l48 1) (vi 1) fun x102 =>
r47 [(nthV l55 0), x102] h56) [vF, (vi 0)] h25) fun l45 h46 =>
joinL (fun j103 => p_if (nthV l45 0) (
p_load1 (.ptr 2 0) h46 fun x106 b107 =>
p_faddr 4 x8 fun x108 =>
p_load1 x108 h46 fun x109 b110 =>
c 126 [(nthV A 0), x106, x109] h46 (fun x113 h114 =>
j103 [] h114) kp) (j103 [] h46)) fun l104 h105 =>
c 184 [(nthV A 0)] h105 (fun x117 h118 =>
p_loadN 5 x8 h118 fun x119 b120 =>
p_store 5 x0 x119 h118 fun h121 b122 =>
p_loadN 5 x0 h121 fun x123 b124 => kr x123 h121) kp) false) (nthV A 0)) (nthV A 0)) (.ptr h6.n (nat_lit 0)) (alQ h6 (.cells .own (nat_lit 0) [(vi 0), vS, (vi 0), (.int .u64 (.ofNat 0)), (vi 0)]))) (nthV A 0)) (.ptr h.n (nat_lit 0)) (alQ h (.cells .own (nat_lit 0) [(vi 0), vS, (vi 0), (.int .u64 (.ofNat 0)), (vi 0)]))) false
noncomputable def h165 : FBody := fun c D k A h kr kp => ifB (Nat.beq (lenV A) 1) (
(fun (x0 : AV) (h1 : AHeap) =>
asNil (
p_faddr 1 (nthV A 0) fun x2 =>
p_load1 x2 h1 fun x3 b4 =>
p_gen (.build [(vi 0), vS, (vi 0), (.int .u64 (.ofNat 0)), (vi 0)] [(0, 1, (.c (vi 4))), (4, 1, (.t 7))]) [(7, x3)] h1 fun x5 h6 k7 =>
(fun (x8 : AV) (h9 : AHeap) =>
p_store 5 x8 x5 h9 fun h10 b11 =>
asNil (
p_faddr 1 (nthV A 0) fun x12 =>
p_load1 x12 h10 fun x13 b14 =>
p_bin .add fiAdd x13 (vi 1) fun x15 =>
asNil (
p_faddr 1 (nthV A 0) fun x16 =>
p_store 1 x16 x15 h10 fun h17 b18 =>
joinL (fun j19 =>
loopB k (fun r22 l23 h24 =>
p_bin .lss fiLss (nthV l23 0) (vi 16) fun x25 =>
joinL (fun j26 => p_if x25 (
j26 [] h24) (j19 [] h24)) fun l27 h28 =>
joinL (fun j29 =>
asNil (
p_faddr 1 (nthV A 0) fun x32 =>
p_load1 x32 h28 fun x33 b34 =>
asNil (
p_faddr 0 (nthV A 0) fun x35 =>
p_load1 x35 h28 fun x36 b37 =>
ifB (okAll (.rd b37) h28 h28 [⟨3, (.rd b34), h28, h28⟩]) (
p_lenS x36 fun x38 =>
p_bin .geq fiGeq x33 x38 fun x39 =>
joinC (fun j40 => p_no x39 (j40 (nthV A 0) h28 .free h28) (j40 undefA h28 .free h28)) fun x41 h42 k43 h44 =>
joinC (fun j45 => p_no x39 (asNil (
j45 x41 h42 .free h42) x41) (j45 undefA h42 .free h42)) fun x46 h47 k48 h49 =>
joinC (fun j50 => p_no x39 (p_faddr 0 x46 fun x55 =>
j50 x55 h47 .free h47) (j50 undefA h47 .free h47)) fun x51 h52 k53 h54 =>
joinC (fun j56 => p_no x39 (p_load1 x51 h52 fun x61 b62 =>
j56 x61 h52 (.rd b62) h52) (j56 undefA h52 .free h52)) fun x57 h58 k59 h60 =>
joinC (fun j63 => p_no x39 (j63 (nthV A 0) h58 .free h58) (j63 undefA h58 .free h58)) fun x64 h65 k66 h67 =>
joinC (fun j68 => p_no x39 (asNil (
j68 x64 h65 .free h65) x64) (j68 undefA h65 .free h65)) fun x69 h70 k71 h72 =>
joinC (fun j73 => p_no x39 (p_faddr 1 x69 fun x78 =>
j73 x78 h70 .free h70) (j73 undefA h70 .free h70)) fun x74 h75 k76 h77 =>
joinC (fun j79 => p_no x39 (p_load1 x74 h75 fun x84 b85 =>
ifB (okAll (.rd b85) h75 h75 [⟨14, k59, h60, h58⟩]) (
j79 x84 h75 (.rd b85) h75) false) (j79 undefA h75 .free h75)) fun x80 h81 k82 h83 =>
joinC (fun j86 => p_no x39 (p_idxs x57 x80 fun x91 =>
j86 x91 h81 .free h81) (j86 undefA h81 .free h81)) fun x87 h88 k89 h90 =>
joinC (fun j92 => p_no x39 (c 185 [(.str [48, 49, 50, 51, 52, 53, 54, 55, 56, 57, 97, 98, 99, 100, 101, 102]), x87] h88 (fun x99 h100 =>
j92 x99 h100 .big h88) kp) (j92 undefA h88 .free h88)) fun x93 h94 k95 h96 =>
joinC (fun j101 => p_no x39 (p_bin .lss fiLss x93 (vi 0) fun x106 =>
j101 x106 h94 .free h94) (j101 undefA h94 .free h94)) fun x102 h103 k104 h105 =>
p_pick x39 vT x102 fun x107 =>
joinL (fun j108 => p_if x107 (
p_load1 (.ptr 3 0) h103 fun x111 b112 =>
p_faddr 4 x8 fun x113 =>
p_load1 x113 h103 fun x114 b115 =>
c 126 [(nthV A 0), x111, x114] h103 (fun x118 h119 =>
j108 [] h119) kp) (j108 [] h103)) fun l109 h110 =>
p_faddr 3 x8 fun x120 =>
p_load1 x120 h110 fun x121 b122 =>
p_gen (.bin .shl (.t 47) (.c (.int .u64 (.ofNat 4)))) [(47, x121)] h110 fun x123 h124 k125 =>
asNil (
p_faddr 0 (nthV A 0) fun x126 =>
p_load1 x126 h124 fun x127 b128 =>
ifB (okAll (.rd b128) h124 h124 [⟨1, (.rd b122), h110, h110⟩]) (
asNil (
p_faddr 1 (nthV A 0) fun x129 =>
p_load1 x129 h124 fun x130 b131 =>
ifB (okAll (.rd b131) h124 h124 [⟨6, (.rd b128), h124, h124⟩, ⟨1, (.rd b122), h110, h110⟩]) (
p_idxs x127 x130 fun x132 =>
c 185 [(.str [48, 49, 50, 51, 52, 53, 54, 55, 56, 57, 97, 98, 99, 100, 101, 102]), x132] h124 (fun x135 h136 =>
ifB (okAll .big h124 h136 [⟨1, (.rd b122), h110, h110⟩]) (
p_gen (.cvi .u64 (.t 58)) [(58, x135)] h136 fun x137 h138 k139 =>
p_gen (.bin .or (.t 48) (.t 59)) [(48, x123), (59, x137)] h138 fun x140 h141 k142 =>
p_faddr 3 x8 fun x143 =>
p_store 1 x143 x140 h141 fun h144 b145 =>
asNil (
p_faddr 1 (nthV A 0) fun x146 =>
p_load1 x146 h144 fun x147 b148 =>
p_bin .add fiAdd x147 (vi 1) fun x149 =>
asNil (
p_faddr 1 (nthV A 0) fun x150 =>
p_store 1 x150 x149 h144 fun h151 b152 =>
j29 [] h151) (nthV A 0)) (nthV A 0)) false) (fun p133 h134 => ifB (okAll .big h124 h134 [⟨1, (.rd b122), h110, h110⟩]) (
kp p133 h134) false)) false) (nthV A 0)) false) (nthV A 0)) false) (nthV A 0)) (nthV A 0)) fun l30 h31 =>
p_bin .add fiAdd (nthV l23 0) (vi 1) fun x153 =>
r22 [x153] h31) [(vi 0)] h17) fun l20 h21 =>
c 184 [(nthV A 0)] h21 (fun x156 h157 =>
asNil (
p_faddr 0 (nthV A 0) fun x158 =>
p_load1 x158 h157 fun x159 b160 =>
p_faddr 4 x8 fun x161 =>
p_load1 x161 h157 fun x162 b163 =>
ifB (okAll (.rd b163) h157 h157 [⟨3, (.rd b160), h157, h157⟩]) (
asNil (
p_faddr 1 (nthV A 0) fun x164 =>
p_load1 x164 h157 fun x165 b166 =>
ifB (okAll (.rd b166) h157 h157 [⟨5, (.rd b163), h157, h157⟩, ⟨3, (.rd b160), h157, h157⟩]) (
p_gen (.sls (.t 75) (some (.t 77)) (some (.t 81))) [(75, x159), (77, x162), (81, x165)] h157 fun x167 h168 k169 =>
p_faddr 1 x8 fun x170 =>
p_store 1 x170 x167 h168 fun h171 b172 =>
p_loadN 5 x8 h171 fun x173 b174 =>
p_store 5 x0 x173 h171 fun h175 b176 =>
p_loadN 5 x0 h175 fun x177 b178 => kr x177 h175) false) (nthV A 0)) false) (nthV A 0)) kp) (nthV A 0)) (nthV A 0)) (.ptr h6.n (nat_lit 0)) (alQ h6 (.cells .own (nat_lit 0) [(vi 0), vS, (vi 0), (.int .u64 (.ofNat 0)), (vi 0)]))) (nthV A 0)) (.ptr h.n (nat_lit 0)) (alQ h (.cells .own (nat_lit 0) [(vi 0), vS, (vi 0), (.int .u64 (.ofNat 0)), (vi 0)]))) false
noncomputable def h166 : FBody := fun c D k A h kr kp => ifB (Nat.beq (lenV A) 1) (
(fun (x0 : AV) (h1 : AHeap) =>
p_gen (.build [vS, vS, vS, vS, vS, vS, vS] [(0, 1, (.c (.str [58, 61]))), (1, 1, (.c (.str [61, 61]))), (2, 1, (.c (.str [33, 61]))), (3, 1, (.c (.str [60, 61]))), (4, 1, (.c (.str [62, 61]))), (5, 1, (.c (.str [38, 38]))), (6, 1, (.c (.str [124, 124])))]) [] h1 fun x2 h3 k4 =>
joinL (fun j5 =>
loopB k (fun r8 l9 h10 =>
p_bin .lss fiLss (nthV l9 0) (vi 7) fun x11 =>
joinL (fun j12 => p_if x11 (
j12 [] h10) (j5 [] h10)) fun l13 h14 =>
joinL (fun j15 =>
p_gen (.idxa false 7 1 (.t 5) (.t 6)) [(5, x2), (6, (nthV l9 0))] h14 fun x18 h19 k20 =>
asNil (
p_faddr 0 (nthV A 0) fun x21 =>
p_load1 x21 h19 fun x22 b23 =>
asNil (
p_faddr 1 (nthV A 0) fun x24 =>
p_load1 x24 h19 fun x25 b26 =>
ifB (okAll (.rd b26) h19 h19 [⟨3, (.rd b23), h19, h19⟩]) (
p_gen (.sls (.t 12) (some (.t 16)) none) [(12, x22), (16, x25)] h19 fun x27 h28 k29 =>
c 148 [x27, x18] h28 (fun x32 h33 =>
p_if x32 (asNil (
p_faddr 1 (nthV A 0) fun x34 =>
p_load1 x34 h33 fun x35 b36 =>
p_bin .add fiAdd x35 (vi 2) fun x37 =>
asNil (
p_faddr 1 (nthV A 0) fun x38 =>
p_store 1 x38 x37 h33 fun h39 b40 =>
asNil (
p_faddr 1 (nthV A 0) fun x41 =>
p_load1 x41 h39 fun x42 b43 =>
p_bin .sub fiSub x42 (vi 2) fun x44 =>
p_gen (.build [(vi 0), vS, (vi 0), (.int .u64 (.ofNat 0)), (vi 0)] [(0, 1, (.c (vi 5))), (1, 1, (.t 27)), (4, 1, (.t 32))]) [(27, x18), (32, x44)] h39 fun x45 h46 k47 =>
p_store 5 x0 x45 h46 fun h48 b49 =>
p_loadN 5 x0 h48 fun x50 b51 => kr x50 h48) (nthV A 0)) (nthV A 0)) (nthV A 0)) (j15 [] h33)) kp) false) (nthV A 0)) (nthV A 0)) fun l16 h17 =>
p_bin .add fiAdd (nthV l9 0) (vi 1) fun x52 =>
r8 [x52] h17) [(vi 0)] h3) fun l6 h7 =>
asNil (
p_faddr 0 (nthV A 0) fun x53 =>
p_load1 x53 h7 fun x54 b55 =>
asNil (
p_faddr 1 (nthV A 0) fun x56 =>
p_load1 x56 h7 fun x57 b58 =>
ifB (okAll (.rd b58) h7 h7 [⟨3, (.rd b55), h7, h7⟩]) (
p_idxs x54 x57 fun x59 =>
c 185 [(.str [43, 45, 42, 47, 37, 60, 62, 61, 33, 40, 41, 123, 125, 91, 93, 44, 59]), x59] h7 (fun x62 h63 =>
p_bin .lss fiLss x62 (vi 0) fun x64 =>
joinL (fun j65 => p_if x64 (
p_load1 (.ptr 3 0) h63 fun x68 b69 =>
asNil (
p_faddr 1 (nthV A 0) fun x70 =>
p_load1 x70 h63 fun x71 b72 =>
ifB (okAll (.rd b72) h63 h63 [⟨1, (.rd b69), h63, h63⟩]) (
c 126 [(nthV A 0), x68, x71] h63 (fun x75 h76 =>
j65 [] h76) kp) false) (nthV A 0)) (j65 [] h63)) fun l66 h67 =>
asNil (
p_faddr 1 (nthV A 0) fun x77 =>
p_load1 x77 h67 fun x78 b79 =>
p_bin .add fiAdd x78 (vi 1) fun x80 =>
asNil (
p_faddr 1 (nthV A 0) fun x81 =>
p_store 1 x81 x80 h67 fun h82 b83 =>
asNil (
p_faddr 0 (nthV A 0) fun x84 =>
p_load1 x84 h82 fun x85 b86 =>
asNil (
p_faddr 1 (nthV A 0) fun x87 =>
p_load1 x87 h82 fun x88 b89 =>
ifB (okAll (.rd b89) h82 h82 [⟨3, (.rd b86), h82, h82⟩]) (
p_bin .sub fiSub x88 (vi 1) fun x90 =>
asNil (
p_faddr 1 (nthV A 0) fun x91 =>
p_load1 x91 h82 fun x92 b93 =>
ifB (okAll (.rd b93) h82 h82 [⟨7, (.rd b89), h82, h82⟩, ⟨3, (.rd b86), h82, h82⟩]) (
p_gen (.sls (.t 63) (some (.t 68)) (some (.t 72))) [(63, x85), (68, x90), (72, x92)] h82 fun x94 h95 k96 =>
asNil (
p_faddr 1 (nthV A 0) fun x97 =>
p_load1 x97 h95 fun x98 b99 =>
ifB (okAll (.rd b99) h95 h95 [⟨13, k96, h82, h95⟩, ⟨12, (.rd b93), h82, h82⟩, ⟨7, (.rd b89), h82, h82⟩, ⟨3, (.rd b86), h82, h82⟩]) (
p_bin .sub fiSub x98 (vi 1) fun x100 =>
p_gen (.build [(vi 0), vS, (vi 0), (.int .u64 (.ofNat 0)), (vi 0)] [(0, 1, (.c (vi 5))), (1, 1, (.t 73)), (4, 1, (.t 78))]) [(73, x94), (78, x100)] h95 fun x101 h102 k103 =>
p_store 5 x0 x101 h102 fun h104 b105 =>
p_loadN 5 x0 h104 fun x106 b107 => kr x106 h104) false) (nthV A 0)) false) (nthV A 0)) false) (nthV A 0)) (nthV A 0)) (nthV A 0)) (nthV A 0)) kp) false) (nthV A 0)) (nthV A 0)) (.ptr h.n (nat_lit 0)) (alQ h (.cells .own (nat_lit 0) [(vi 0), vS, (vi 0), (.int .u64 (.ofNat 0)), (vi 0)]))) false
noncomputable def h167 : FBody := fun c D k A h kr kp => ifB (Nat.beq (lenV A) 1) (
(fun (x0 : AV) (h1 : AHeap) =>
c 49 [(nthV A 0)] h1 (fun x4 h5 =>
(fun (x6 : AV) (h7 : AHeap) =>
p_store 5 x6 x4 h7 fun h8 b9 =>
p_faddr 0 x6 fun x10 =>
p_load1 x10 h8 fun x11 b12 =>
p_eq x11 (vi 1) fun x13 =>
joinL (fun j14 => p_if x13 (
c 186 [(nthV A 0)] h8 (fun x19 h20 =>
p_store 9 x0 x19 h20 fun h21 b22 =>
p_loadN 9 x0 h21 fun x23 b24 => kr x23 h21) kp) (j14 [] h8)) fun l15 h16 =>
p_faddr 0 x6 fun x25 =>
p_load1 x25 h16 fun x26 b27 =>
p_bin .neq fiNeq x26 (vi 2) fun x28 =>
joinL (fun j29 => p_if x28 (
c 83 [(nthV A 0)] h16 (fun x34 h35 =>
j29 [] h35) kp) (j29 [] h16)) fun l30 h31 =>
p_faddr 1 x6 fun x36 =>
p_load1 x36 h31 fun x37 b38 =>
joinL (fun j39 =>
p_eq x37 (.str [103, 111]) fun x42 =>
p_if x42 (c 90 [(nthV A 0), (.str [103, 111])] h31 (fun x45 h46 =>
(fun (x47 : AV) (h48 : AHeap) =>
p_faddr 4 x6 fun x49 =>
p_load1 x49 h48 fun x50 b51 =>
ifB (okAll (.rd b51) h48 h48 [⟨6, .new, h46, h48⟩]) (
c 85 [(nthV A 0), (vi 1)] h48 (fun x54 h55 =>
ifB (okAll .big h48 h55 [⟨1, (.rd b51), h48, h48⟩, ⟨6, .new, h46, h48⟩]) (
p_fld x54 1 fun x56 =>
p_gen (.build [(vi 0), (vi 0), vS, (vi 0), (vi 0), (vi 0), (vi 0), (.int .u64 (.ofNat 0)), .nilSlice] [(0, 1, (.c (vi 12))), (1, 1, (.t 24)), (2, 1, (.t 27))]) [(24, x50), (27, x56)] h55 fun x57 h58 k59 =>
ifB (okAll k59 h55 h58 [⟨6, .new, h46, h48⟩]) (
p_store 9 x47 x57 h58 fun h60 b61 =>
c 187 [(nthV A 0)] h60 (fun x64 h65 =>
p_faddr 8 x47 fun x66 =>
p_store 1 x66 x64 h65 fun h67 b68 =>
p_loadN 9 x47 h67 fun x69 b70 =>
p_store 9 x0 x69 h67 fun h71 b72 =>
p_loadN 9 x0 h71 fun x73 b74 => kr x73 h71) kp) false) false) (fun p52 h53 => ifB (okAll .big h48 h53 [⟨1, (.rd b51), h48, h48⟩, ⟨6, .new, h46, h48⟩]) (
kp p52 h53) false)) false) (.ptr h46.n (nat_lit 0)) (alQ h46 (.cells .own (nat_lit 0) [(vi 0), (vi 0), vS, (vi 0), (vi 0), (vi 0), (vi 0), (.int .u64 (.ofNat 0)), .nilSlice]))) kp) (p_eq x37 (.str [108, 111, 99, 107]) fun x75 =>
p_if x75 (c 188 [(nthV A 0), (vi 14), (vi 0)] h31 (fun x78 h79 =>
p_store 9 x0 x78 h79 fun h80 b81 =>
p_loadN 9 x0 h80 fun x82 b83 => kr x82 h80) kp) (p_eq x37 (.str [117, 110, 108, 111, 99, 107]) fun x84 =>
p_if x84 (c 188 [(nthV A 0), (vi 15), (vi 0)] h31 (fun x87 h88 =>
p_store 9 x0 x87 h88 fun h89 b90 =>
p_loadN 9 x0 h89 fun x91 b92 => kr x91 h89) kp) (p_eq x37 (.str [115, 101, 110, 100]) fun x93 =>
p_if x93 (c 188 [(nthV A 0), (vi 16), (vi 1)] h31 (fun x96 h97 =>
p_store 9 x0 x96 h97 fun h98 b99 =>
p_loadN 9 x0 h98 fun x100 b101 => kr x100 h98) kp) (p_eq x37 (.str [114, 101, 99, 118]) fun x102 =>
p_if x102 (c 188 [(nthV A 0), (vi 17), (vi 2)] h31 (fun x105 h106 =>
p_store 9 x0 x105 h106 fun h107 b108 =>
p_loadN 9 x0 h107 fun x109 b110 => kr x109 h107) kp) (p_eq x37 (.str [97, 100, 100]) fun x111 =>
p_if x111 (c 188 [(nthV A 0), (vi 18), (vi 1)] h31 (fun x114 h115 =>
p_store 9 x0 x114 h115 fun h116 b117 =>
p_loadN 9 x0 h116 fun x118 b119 => kr x118 h116) kp) (p_eq x37 (.str [112, 117, 116]) fun x120 =>
p_if x120 (c 188 [(nthV A 0), (vi 19), (vi 1)] h31 (fun x123 h124 =>
p_store 9 x0 x123 h124 fun h125 b126 =>
p_loadN 9 x0 h125 fun x127 b128 => kr x127 h125) kp) (p_eq x37 (.str [103, 101, 116]) fun x129 =>
p_if x129 (c 188 [(nthV A 0), (vi 20), (vi 2)] h31 (fun x132 h133 =>
p_store 9 x0 x132 h133 fun h134 b135 =>
p_loadN 9 x0 h134 fun x136 b137 => kr x136 h134) kp) (p_eq x37 (.str [114, 101, 116, 117, 114, 110]) fun x138 =>
p_if x138 (c 90 [(nthV A 0), (.str [114, 101, 116, 117, 114, 110])] h31 (fun x141 h142 =>
p_faddr 4 x6 fun x143 =>
p_load1 x143 h142 fun x144 b145 =>
p_gen (.build [(vi 0), (vi 0), vS, (vi 0), (vi 0), (vi 0), (vi 0), (.int .u64 (.ofNat 0)), .nilSlice] [(0, 1, (.c (vi 23))), (1, 1, (.t 66))]) [(66, x144)] h142 fun x146 h147 k148 =>
p_store 9 x0 x146 h147 fun h149 b150 =>
p_loadN 9 x0 h149 fun x151 b152 => kr x151 h149) kp) (j39 [] h31)))))))))) fun l40 h41 =>
c 90 [(nthV A 0), (.str [102, 97, 105, 108])] h41 (fun x155 h156 =>
p_faddr 4 x6 fun x157 =>
p_load1 x157 h156 fun x158 b159 =>
c 96 [(nthV A 0)] h156 (fun x162 h163 =>
ifB (okAll .big h156 h163 [⟨1, (.rd b159), h156, h156⟩]) (
p_gen (.bslice 9 [(vi 0), (vi 0), vS, (vi 0), (vi 0), (vi 0), (vi 0), (.int .u64 (.ofNat 0)), .nilSlice] 1 [(0, 9, (.t 73))]) [(73, x162)] h163 fun x164 h165 k166 =>
ifB (okAll k166 h163 h165 [⟨1, (.rd b159), h156, h156⟩]) (
p_gen (.build [(vi 0), (vi 0), vS, (vi 0), (vi 0), (vi 0), (vi 0), (.int .u64 (.ofNat 0)), .nilSlice] [(0, 1, (.c (vi 24))), (1, 1, (.t 71)), (8, 1, (.t 74))]) [(71, x158), (74, x164)] h165 fun x167 h168 k169 =>
p_store 9 x0 x167 h168 fun h170 b171 =>
p_loadN 9 x0 h170 fun x172 b173 => kr x172 h170) false) false) (fun p160 h161 => ifB (okAll .big h156 h161 [⟨1, (.rd b159), h156, h156⟩]) (
kp p160 h161) false)) kp) (.ptr h5.n (nat_lit 0)) (alQ h5 (.cells .own (nat_lit 0) [(vi 0), vS, (vi 0), (.int .u64 (.ofNat 0)), (vi 0)]))) kp) (.ptr h.n (nat_lit 0)) (alQ h (.cells .own (nat_lit 0) [(vi 0), (vi 0), vS, (vi 0), (vi 0), (vi 0), (vi 0), (.int .u64 (.ofNat 0)), .nilSlice]))) false
noncomputable def h168 : FBody := fun c D k A h kr kp => ifB (Nat.beq (lenV A) 2) (
p_gen (.mkmap) [] h fun x0 h1 k2 =>
p_gen (.build [vS, (vi 0)] [(0, 1, (.c (.str [45]))), (1, 1, (.c (vi 1)))]) [] h1 fun x3 h4 k5 =>
ifB (okAll k5 h1 h4 [⟨0, k2, h, h1⟩]) (
p_gen (.mapupd (.many [.str, .int]) (.t 5) (.t 6) (.c (vi 1))) [(5, x0), (6, x3)] h4 fun x6 h7 k8 =>
p_gen (.build [vS, (vi 0)] [(0, 1, (.c (.str [45]))), (1, 1, (.c (vi 2)))]) [] h7 fun x9 h10 k11 =>
ifB (okAll k11 h7 h10 [⟨2, k8, h4, h7⟩, ⟨1, k5, h1, h4⟩, ⟨0, k2, h, h1⟩]) (
p_gen (.mapupd (.many [.str, .int]) (.t 5) (.t 7) (.c (vi 2))) [(5, x0), (7, x9)] h10 fun x12 h13 k14 =>
ifB (okAll k14 h10 h13 [⟨2, k8, h4, h7⟩, ⟨1, k5, h1, h4⟩]) (
p_gen (.build [vS, (vi 0)] [(0, 1, (.c (.str [33]))), (1, 1, (.c (vi 3)))]) [] h13 fun x15 h16 k17 =>
ifB (okAll k17 h13 h16 [⟨4, k14, h10, h13⟩, ⟨3, k11, h7, h10⟩, ⟨2, k8, h4, h7⟩, ⟨1, k5, h1, h4⟩, ⟨0, k2, h, h1⟩]) (
p_gen (.mapupd (.many [.str, .int]) (.t 5) (.t 8) (.c (vi 3))) [(5, x0), (8, x15)] h16 fun x18 h19 k20 =>
ifB (okAll k20 h16 h19 [⟨4, k14, h10, h13⟩, ⟨3, k11, h7, h10⟩, ⟨2, k8, h4, h7⟩, ⟨1, k5, h1, h4⟩]) (
p_gen (.build [vS, (vi 0)] [(0, 1, (.c (.str [105, 110, 116]))), (1, 1, (.c (vi 2)))]) [] h19 fun x21 h22 k23 =>
ifB (okAll k23 h19 h22 [⟨6, k20, h16, h19⟩, ⟨5, k17, h13, h16⟩, ⟨4, k14, h10, h13⟩, ⟨3, k11, h7, h10⟩, ⟨2, k8, h4, h7⟩, ⟨1, k5, h1, h4⟩, ⟨0, k2, h, h1⟩]) (
p_gen (.mapupd (.many [.str, .int]) (.t 5) (.t 9) (.c (vi 1))) [(5, x0), (9, x21)] h22 fun x24 h25 k26 =>
ifB (okAll k26 h22 h25 [⟨6, k20, h16, h19⟩, ⟨5, k17, h13, h16⟩, ⟨4, k14, h10, h13⟩, ⟨3, k11, h7, h10⟩, ⟨2, k8, h4, h7⟩, ⟨1, k5, h1, h4⟩]) (
p_gen (.build [vS, (vi 0)] [(0, 1, (.c (.str [102, 108, 111, 97, 116]))), (1, 1, (.c (vi 1)))]) [] h25 fun x27 h28 k29 =>
ifB (okAll k29 h25 h28 [⟨8, k26, h22, h25⟩, ⟨7, k23, h19, h22⟩, ⟨6, k20, h16, h19⟩, ⟨5, k17, h13, h16⟩, ⟨4, k14, h10, h13⟩, ⟨3, k11, h7, h10⟩, ⟨2, k8, h4, h7⟩, ⟨1, k5, h1, h4⟩, ⟨0, k2, h, h1⟩]) (
p_gen (.mapupd (.many [.str, .int]) (.t 5) (.t 10) (.c (vi 2))) [(5, x0), (10, x27)] h28 fun x30 h31 k32 =>
ifB (okAll k32 h28 h31 [⟨8, k26, h22, h25⟩, ⟨7, k23, h19, h22⟩, ⟨6, k20, h16, h19⟩, ⟨5, k17, h13, h16⟩, ⟨4, k14, h10, h13⟩, ⟨3, k11, h7, h10⟩, ⟨2, k8, h4, h7⟩, ⟨1, k5, h1, h4⟩]) (
p_gen (.build [vS, (vi 0)] [(0, 1, (.t 12)), (1, 1, (.t 13))]) [(12, (nthV A 0)), (13, (nthV A 1))] h31 fun x33 h34 k35 =>
ifB (okAll k35 h31 h34 [⟨10, k32, h28, h31⟩, ⟨9, k29, h25, h28⟩, ⟨8, k26, h22, h25⟩, ⟨7, k23, h19, h22⟩, ⟨6, k20, h16, h19⟩, ⟨5, k17, h13, h16⟩, ⟨4, k14, h10, h13⟩, ⟨3, k11, h7, h10⟩, ⟨2, k8, h4, h7⟩, ⟨1, k5, h1, h4⟩, ⟨0, k2, h, h1⟩]) (
p_gen (.lookup (.many [.str, .int]) (vi 0) (.t 11) (.t 14) false) [(11, x0), (14, x33)] h34 fun x36 h37 k38 =>
kr x36 h37) false) false) false) false) false) false) false) false) false) false) false
noncomputable def h169 : FBody := fun c D k A h kr kp => ifB (Nat.beq (lenV A) 3) (
p_eq (nthV A 1) (vi 1) fun x0 =>
joinV (fun j1 => p_no x0 (j1 (nthV A 1) h) (j1 undefA h)) fun x2 h3 =>
joinV (fun j4 => p_no x0 (p_eq x2 (vi 2) fun x7 =>
j4 x7 h3) (j4 undefA h3)) fun x5 h6 =>
p_pick x0 vT x5 fun x8 =>
joinL (fun j9 =>
p_bin .neq fiNeq (nthV A 1) (nthV A 2) fun x12 =>
joinV (fun j13 => p_no x12 (j13 (nthV A 1) h6) (j13 undefA h6)) fun x14 h15 =>
joinV (fun j16 => p_no x12 (p_eq x14 (vi 0) fun x19 =>
j16 x19 h15) (j16 undefA h15)) fun x17 h18 =>
p_pick x12 vT x17 fun x20 =>
p_if x20 (kr (vi 0) h18) (p_eq (nthV A 0) (.str [37]) fun x21 =>
joinV (fun j22 => p_yes x21 (j22 (nthV A 1) h18) (j22 undefA h18)) fun x23 h24 =>
joinV (fun j25 => p_yes x21 (p_eq x23 (vi 1) fun x28 =>
j25 x28 h24) (j25 undefA h24)) fun x26 h27 =>
p_pick x21 x26 vF fun x29 =>
joinL (fun j30 => p_if x29 (
j30 [x29] h27) (joinV (fun j33 => p_yes x8 (p_gen (.bslice 1 [vS, vS, vS, vS] 4 [(0, 1, (.c (.str [43]))), (1, 1, (.c (.str [45]))), (2, 1, (.c (.str [42]))), (3, 1, (.c (.str [47])))]) [] h27 fun x36 h37 k38 =>
j33 x36 h37) (j33 undefA h27)) fun x34 h35 =>
joinV (fun j39 => p_yes x8 (j39 (nthV A 0) h35) (j39 undefA h35)) fun x40 h41 =>
joinV (fun j42 => p_yes x8 (c 128 [x34, x40] h41 (fun x47 h48 =>
j42 x47 h48) kp) (j42 undefA h41)) fun x43 h44 =>
p_pick x8 x43 vF fun x49 =>
j30 [x49] h44)) fun l31 h32 =>
p_if (nthV l31 0) (kr (nthV A 1) h32) (p_eq (nthV A 0) (.str [61, 61]) fun x50 =>
joinL (fun j51 => p_if x50 (
j51 [x50] h32) (p_eq (nthV A 0) (.str [33, 61]) fun x54 =>
p_if x54 (j51 [x54] h32) (joinV (fun j55 => p_yes x8 (p_gen (.bslice 1 [vS, vS, vS, vS] 4 [(0, 1, (.c (.str [60]))), (1, 1, (.c (.str [60, 61]))), (2, 1, (.c (.str [62]))), (3, 1, (.c (.str [62, 61])))]) [] h32 fun x58 h59 k60 =>
j55 x58 h59) (j55 undefA h32)) fun x56 h57 =>
joinV (fun j61 => p_yes x8 (j61 (nthV A 0) h57) (j61 undefA h57)) fun x62 h63 =>
joinV (fun j64 => p_yes x8 (c 128 [x56, x62] h63 (fun x69 h70 =>
j64 x69 h70) kp) (j64 undefA h63)) fun x65 h66 =>
p_pick x8 x65 vF fun x71 =>
p_if x71 (j51 [x71] h66) (p_eq (nthV A 1) (vi 3) fun x72 =>
joinV (fun j73 => p_yes x72 (j73 (nthV A 0) h66) (j73 undefA h66)) fun x74 h75 =>
joinV (fun j76 => p_yes x72 (p_eq x74 (.str [38, 38]) fun x79 =>
j76 x79 h75) (j76 undefA h75)) fun x77 h78 =>
joinV (fun j80 => p_yes x72 (j80 x77 h78) (j80 undefA h78)) fun x81 h82 =>
joinV (fun j83 => p_no x81 (j83 (nthV A 0) h82) (j83 undefA h82)) fun x84 h85 =>
joinV (fun j86 => p_no x81 (p_eq x84 (.str [124, 124]) fun x89 =>
j86 x89 h85) (j86 undefA h85)) fun x87 h88 =>
joinV (fun j90 => p_yes x72 (p_pick x81 vT x87 fun x93 =>
j90 x93 h88) (j90 undefA h88)) fun x91 h92 =>
p_pick x72 x91 vF fun x94 =>
j51 [x94] h92)))) fun l52 h53 =>
p_if (nthV l52 0) (kr (vi 3) h53) (j9 [(vi 0)] h53)))) fun l10 h11 =>
kr (vi 0) h11) false
noncomputable def h170 : FBody := fun c D k A h kr kp => ifB (Nat.beq (lenV A) 1) (
(fun (x0 : AV) (h1 : AHeap) =>
(fun (x2 : AV) => p_gen (.bslice 1 [vS, vS, vS, vS, vS, vS] 6 [(0, 1, (.c (.str [61, 61]))), (1, 1, (.c (.str [33, 61]))), (2, 1, (.c (.str [60]))), (3, 1, (.c (.str [60, 61]))), (4, 1, (.c (.str [62]))), (5, 1, (.c (.str [62, 61])))]) [] h1 fun x3 h4 k5 =>
c 136 [(nthV A 0), x2, vF, x3] h4 (fun x8 h9 =>
p_store 9 x0 x8 h9 fun h10 b11 =>
p_loadN 9 x0 h10 fun x12 b13 => kr x12 h10) kp) (.func (.func 189) [(nthV A 0)] [])) (.ptr h.n (nat_lit 0)) (alQ h (.cells .own (nat_lit 0) [(vi 0), (vi 0), vS, (vi 0), (vi 0), (vi 0), (vi 0), (.int .u64 (.ofNat 0)), .nilSlice]))) false
noncomputable def h171 : FBody := fun c D k A h kr kp => ifB (Nat.beq (lenV A) 2) (
p_gen (.box (.t 0)) [(0, (nthV A 0))] h fun x0 h1 k2 =>
p_gen (.box (.t 1)) [(1, (nthV A 1))] h1 fun x3 h4 k5 =>
p_faddr 0 x3 fun x6 =>
p_load1 x6 h4 fun x7 b8 =>
joinL (fun j9 =>
p_eq x7 (vi 10) fun x12 =>
joinL (fun j13 => p_if x12 (
j13 [x12] h4) (p_eq x7 (vi 22) fun x16 =>
j13 [x16] h4)) fun l14 h15 =>
p_if (nthV l14 0) (j9 [(vi 2)] h15) (p_eq x7 (vi 21) fun x17 =>
p_if x17 (p_faddr 8 x3 fun x18 =>
p_load1 x18 h15 fun x19 b20 =>
p_lenL x19 fun x21 =>
p_eq x21 (vi 3) fun x22 =>
p_if x22 (j9 [(vi 3)] h15) (j9 [(vi 2)] h15)) (p_eq x7 (vi 14) fun x23 =>
joinL (fun j24 => p_if x23 (
j24 [x23] h15) (p_eq x7 (vi 15) fun x27 =>
p_if x27 (j24 [x27] h15) (p_eq x7 (vi 23) fun x28 =>
j24 [x28] h15))) fun l25 h26 =>
p_if (nthV l25 0) (j9 [(vi 0)] h26) (p_eq x7 (vi 12) fun x29 =>
joinL (fun j30 => p_if x29 (
j30 [x29] h26) (p_eq x7 (vi 13) fun x33 =>
j30 [x33] h26)) fun l31 h32 =>
p_if (nthV l31 0) (p_faddr 8 x3 fun x34 =>
p_load1 x34 h32 fun x35 b36 =>
p_lenL x35 fun x37 =>
j9 [x37] h32) (p_eq x7 (vi 11) fun x38 =>
joinL (fun j39 => p_if x38 (
j39 [x38] h32) (p_eq x7 (vi 16) fun x42 =>
p_if x42 (j39 [x42] h32) (p_eq x7 (vi 17) fun x43 =>
p_if x43 (j39 [x43] h32) (p_eq x7 (vi 18) fun x44 =>
p_if x44 (j39 [x44] h32) (p_eq x7 (vi 19) fun x45 =>
p_if x45 (j39 [x45] h32) (p_eq x7 (vi 20) fun x46 =>
p_if x46 (j39 [x46] h32) (p_eq x7 (vi 24) fun x47 =>
j39 [x47] h32))))))) fun l40 h41 =>
p_if (nthV l40 0) (j9 [(vi 1)] h41) (p_loadN 0 x0 h41 fun x48 b49 =>
c 98 [x48, vF] h41 (fun x52 h53 =>
j9 [(vi 1)] h53) kp)))))) fun l10 h11 =>
p_loadN 0 x0 h11 fun x54 b55 =>
p_faddr 8 x3 fun x56 =>
p_load1 x56 h11 fun x57 b58 =>
p_lenL x57 fun x59 =>
p_eq x59 (nthV l10 0) fun x60 =>
c 98 [x54, x60] h11 (fun x63 h64 =>
p_gen (.build [(vi 0), (vi 0), vS, (vi 0), (vi 0), (vi 0), (vi 0), (.int .u64 (.ofNat 0)), .nilSlice] []) [] h64 fun x65 h66 k67 =>
(fun (x68 : AV) (h69 : AHeap) =>
p_store 9 x68 x65 h69 fun h70 b71 =>
p_faddr 0 x3 fun x72 =>
p_load1 x72 h70 fun x73 b74 =>
joinL (fun j75 =>
p_eq x73 (vi 10) fun x78 =>
joinL (fun j79 => p_if x78 (
j79 [x78] h70) (p_eq x73 (vi 21) fun x82 =>
p_if x82 (j79 [x82] h70) (p_eq x73 (vi 22) fun x83 =>
p_if x83 (j79 [x83] h70) (p_eq x73 (vi 23) fun x84 =>
p_if x84 (j79 [x84] h70) (p_eq x73 (vi 24) fun x85 =>
j79 [x85] h70))))) fun l80 h81 =>
p_if (nthV l80 0) (j75 [] h81) (p_loadN 0 x0 h81 fun x86 b87 =>
p_faddr 2 x3 fun x88 =>
p_load1 x88 h81 fun x89 b90 =>
c 108 [x86, x89] h81 (fun x93 h94 =>
p_faddr 2 x3 fun x95 =>
p_load1 x95 h94 fun x96 b97 =>
p_faddr 2 x68 fun x98 =>
p_store 1 x98 x96 h94 fun h99 b100 =>
j75 [] h99) kp)) fun l76 h77 =>
p_loadN 0 x0 h77 fun x101 b102 =>
p_loadN 9 x3 h77 fun x103 b104 =>
p_loadN 9 x68 h77 fun x105 b106 =>
c 99 [x101, x103, x105] h77 (fun x109 h110 =>
p_faddr 8 x3 fun x111 =>
p_load1 x111 h110 fun x112 b113 =>
p_lenL x112 fun x114 =>
loopB k (fun r115 l116 h117 =>
p_bin .lss fiLss (nthV l116 0) x114 fun x118 =>
joinL (fun j119 => p_if x118 (
j119 [] h117) (kr undefA h117)) fun l120 h121 =>
joinL (fun j122 =>
p_iaddr 9 x112 (nthV l116 0) fun x125 =>
p_loadN 9 x125 h121 fun x126 b127 =>
(fun (x128 : AV) (h129 : AHeap) =>
p_store 9 x128 x126 h129 fun h130 b131 =>
p_faddr 0 x3 fun x132 =>
p_load1 x132 h130 fun x133 b134 =>
p_eq x133 (vi 17) fun x135 =>
joinL (fun j136 => p_if x135 (
j136 [x135] h130) (p_faddr 0 x3 fun x139 =>
p_load1 x139 h130 fun x140 b141 =>
p_eq x140 (vi 20) fun x142 =>
p_if x142 (j136 [x142] h130) (p_faddr 0 x3 fun x143 =>
p_load1 x143 h130 fun x144 b145 =>
p_eq x144 (vi 10) fun x146 =>
joinV (fun j147 => p_yes x146 (j147 (nthV l116 0) h130) (j147 undefA h130)) fun x148 h149 =>
joinV (fun j150 => p_yes x146 (p_eq x148 (vi 0) fun x153 =>
j150 x153 h149) (j150 undefA h149)) fun x151 h152 =>
p_pick x146 x151 vF fun x154 =>
j136 [x154] h152))) fun l137 h138 =>
p_if (nthV l137 0) (p_loadN 0 x0 h138 fun x155 b156 =>
p_loadN 9 x128 h138 fun x157 b158 =>
c 190 [x155, x157] h138 (fun x161 h162 =>
j122 [] h162) kp) (p_bin .gtr fiGtr (nthV l116 0) (vi 0) fun x163 =>
joinV (fun j164 => p_yes x163 (p_faddr 0 x3 fun x167 =>
j164 x167 h138) (j164 undefA h138)) fun x165 h166 =>
joinV (fun j168 => p_yes x163 (p_load1 x165 h166 fun x171 b172 =>
j168 x171 h166) (j168 undefA h166)) fun x169 h170 =>
joinV (fun j173 => p_yes x163 (p_eq x169 (vi 21) fun x176 =>
j173 x176 h170) (j173 undefA h170)) fun x174 h175 =>
joinV (fun j177 => p_yes x163 (j177 x174 h175) (j177 undefA h175)) fun x178 h179 =>
joinV (fun j180 => p_no x178 (p_faddr 0 x3 fun x183 =>
j180 x183 h179) (j180 undefA h179)) fun x181 h182 =>
joinV (fun j184 => p_no x178 (p_load1 x181 h182 fun x187 b188 =>
j184 x187 h182) (j184 undefA h182)) fun x185 h186 =>
joinV (fun j189 => p_no x178 (p_eq x185 (vi 22) fun x192 =>
j189 x192 h186) (j189 undefA h186)) fun x190 h191 =>
joinV (fun j193 => p_yes x163 (p_pick x178 vT x190 fun x196 =>
j193 x196 h191) (j193 undefA h191)) fun x194 h195 =>
p_pick x163 x194 vF fun x197 =>
p_if x197 (p_loadN 0 x0 h195 fun x198 b199 =>
p_loadN 9 x128 h195 fun x200 b201 =>
c 139 [x198, x200] h195 (fun x204 h205 =>
j122 [] h205) kp) (p_loadN 0 x0 h195 fun x206 b207 =>
p_loadN 9 x128 h195 fun x208 b209 =>
c 68 [x206, x208] h195 (fun x212 h213 =>
j122 [] h213) kp))) (.ptr h121.n (nat_lit 0)) (alQ h121 (.cells .own (nat_lit 0) [(vi 0), (vi 0), vS, (vi 0), (vi 0), (vi 0), (vi 0), (.int .u64 (.ofNat 0)), .nilSlice]))) fun l123 h124 =>
p_bin .add fiAdd (nthV l116 0) (vi 1) fun x214 =>
r115 [x214] h124) [(vi 0)] h110) kp) (.ptr h66.n (nat_lit 0)) (alQ h66 (.cells .own (nat_lit 0) [(vi 0), (vi 0), vS, (vi 0), (vi 0), (vi 0), (vi 0), (.int .u64 (.ofNat 0)), .nilSlice]))) kp) false
noncomputable def h180 : FBody := fun c D k A h kr kp => ifB (Nat.beq (lenV A) 2) (
p_lenS (nthV A 0) fun x0 =>
p_lenS (nthV A 1) fun x1 =>
p_bin .geq fiGeq x0 x1 fun x2 =>
joinV (fun j3 => p_yes x2 (j3 (nthV A 0) h) (j3 undefA h)) fun x4 h5 =>
joinV (fun j6 => p_yes x2 (j6 (nthV A 1) h5) (j6 undefA h5)) fun x7 h8 =>
joinV (fun j9 => p_yes x2 (p_lenS x7 fun x12 =>
j9 x12 h8) (j9 undefA h8)) fun x10 h11 =>
joinV (fun j13 => p_yes x2 (p_gen (.sls (.t 11) none (some (.t 13))) [(11, x4), (13, x10)] h11 fun x16 h17 k18 =>
j13 x16 h17) (j13 undefA h11)) fun x14 h15 =>
joinV (fun j19 => p_yes x2 (j19 (nthV A 1) h15) (j19 undefA h15)) fun x20 h21 =>
joinV (fun j22 => p_yes x2 (p_eq x14 x20 fun x25 =>
j22 x25 h21) (j22 undefA h21)) fun x23 h24 =>
p_pick x2 x23 vF fun x26 =>
kr x26 h24) false
noncomputable def h181 : FBody := fun c D k A h kr kp => ifB (Nat.beq (lenV A) 3) (
p_load1 (nthV A 1) h fun x0 b1 =>
asNil (
p_faddr 0 x0 fun x2 =>
p_faddr 0 x2 fun x3 =>
p_load1 x3 h fun x4 b5 =>
p_faddr 4 (nthV A 2) fun x6 =>
p_load1 x6 h fun x7 b8 =>
ifB (okAll (.rd b8) h h [⟨5, (.rd b5), h, h⟩, ⟨1, (.rd b1), h, h⟩]) (
p_iaddr 1 x4 x7 fun x9 =>
p_load1 x9 h fun x10 b11 =>
p_bin .neq fiNeq (nthV A 0) x10 fun x12 =>
kr x12 h) false) x0) false
noncomputable def h182 : FBody := fun c D k A h kr kp => ifB (Nat.beq (lenV A) 1) (
c 161 [(nthV A 0)] h (fun x2 h3 =>
joinV (fun j4 => p_no x2 (j4 (nthV A 0) h3) (j4 undefA h3)) fun x5 h6 =>
joinV (fun j7 => p_no x2 (c 163 [x5] h6 (fun x12 h13 =>
j7 x12 h13) kp) (j7 undefA h6)) fun x8 h9 =>
p_pick x2 vT x8 fun x14 =>
kr x14 h9) kp) false
noncomputable def h183 : FBody := fun c D k A h kr kp => ifB (Nat.beq (lenV A) 1) (
p_gen (.bslice 1 [vS, vS, vS, vS, vS, vS, vS, vS, vS, vS, vS, vS, vS, vS, vS, vS, vS, vS, vS, vS, vS, vS, vS] 23 [(0, 1, (.c (.str [97, 100, 100]))), (1, 1, (.c (.str [97, 116, 111, 109, 105, 99]))), (2, 1, (.c (.str [98, 111, 111, 108]))), (3, 1, (.c (.str [99, 104, 97, 110]))), (4, 1, (.c (.str [101, 108, 115, 101]))), (5, 1, (.c (.str [102, 97, 105, 108]))), (6, 1, (.c (.str [102, 97, 108, 115, 101]))), (7, 1, (.c (.str [102, 108, 111, 97, 116]))), (8, 1, (.c (.str [102, 117, 110, 99]))), (9, 1, (.c (.str [103, 101, 116]))), (10, 1, (.c (.str [103, 111]))), (11, 1, (.c (.str [105, 102]))), (12, 1, (.c (.str [105, 110, 116]))), (13, 1, (.c (.str [108, 111, 99, 107]))), (14, 1, (.c (.str [109, 117, 116, 101, 120]))), (15, 1, (.c (.str [112, 117, 116]))), (16, 1, (.c (.str [114, 101, 99, 118]))), (17, 1, (.c (.str [114, 101, 116, 117, 114, 110]))), (18, 1, (.c (.str [115, 101, 110, 100]))), (19, 1, (.c (.str [116, 114, 117, 101]))), (20, 1, (.c (.str [117, 110, 108, 111, 99, 107]))), (21, 1, (.c (.str [118, 97, 114]))), (22, 1, (.c (.str [119, 104, 105, 108, 101])))]) [] h fun x0 h1 k2 =>
c 128 [x0, (nthV A 0)] h1 (fun x5 h6 =>
kr x5 h6) kp) false
noncomputable def h184 : FBody := fun c D k A h kr kp => ifB (Nat.beq (lenV A) 1) (
c 160 [(nthV A 0), (.func (.func 182) [] [])] h (fun x2 h3 =>
p_if x2 (p_load1 (.ptr 3 0) h3 fun x4 b5 =>
asNil (
p_faddr 1 (nthV A 0) fun x6 =>
p_load1 x6 h3 fun x7 b8 =>
ifB (okAll (.rd b8) h3 h3 [⟨1, (.rd b5), h3, h3⟩]) (
c 126 [(nthV A 0), x4, x7] h3 (fun x11 h12 =>
kr undefA h12) kp) false) (nthV A 0)) (kr undefA h3)) kp) false
noncomputable def h185 : FBody := fun c D k A h kr kp => ifB (Nat.beq (lenV A) 2) (
c 198 [(nthV A 0), (nthV A 1)] h (fun x2 h3 =>
kr x2 h3) kp) false
noncomputable def h186 : FBody := fun c D k A h kr kp => ifB (Nat.beq (lenV A) 1) (
(fun (x0 : AV) (h1 : AHeap) =>
c 49 [(nthV A 0)] h1 (fun x4 h5 =>
p_fld x4 4 fun x6 =>
asNil (
p_faddr 0 (nthV A 0) fun x7 =>
p_load1 x7 h5 fun x8 b9 =>
p_lenL x8 fun x10 =>
p_bin .gtr fiGtr x10 (vi 1) fun x11 =>
joinV (fun j12 => p_yes x11 (j12 (nthV A 0) h5) (j12 undefA h5)) fun x13 h14 =>
joinV (fun j15 => p_yes x11 (asNil (
j15 x13 h14) x13) (j15 undefA h14)) fun x16 h17 =>
joinV (fun j18 => p_yes x11 (p_faddr 0 x16 fun x21 =>
j18 x21 h17) (j18 undefA h17)) fun x19 h20 =>
joinV (fun j22 => p_yes x11 (p_load1 x19 h20 fun x25 b26 =>
j22 x25 h20) (j22 undefA h20)) fun x23 h24 =>
joinV (fun j27 => p_yes x11 (p_iaddr 5 x23 (vi 1) fun x30 =>
j27 x30 h24) (j27 undefA h24)) fun x28 h29 =>
joinV (fun j31 => p_yes x11 (p_faddr 0 x28 fun x34 =>
j31 x34 h29) (j31 undefA h29)) fun x32 h33 =>
joinV (fun j35 => p_yes x11 (p_load1 x32 h33 fun x38 b39 =>
j35 x38 h33) (j35 undefA h33)) fun x36 h37 =>
joinV (fun j40 => p_yes x11 (p_eq x36 (vi 5) fun x43 =>
j40 x43 h37) (j40 undefA h37)) fun x41 h42 =>
p_pick x11 x41 vF fun x44 =>
joinL (fun j45 => p_if x44 (
asNil (
p_faddr 0 (nthV A 0) fun x48 =>
p_load1 x48 h42 fun x49 b50 =>
p_iaddr 5 x49 (vi 1) fun x51 =>
p_faddr 1 x51 fun x52 =>
p_load1 x52 h42 fun x53 b54 =>
p_eq x53 (.str [58, 61]) fun x55 =>
p_if x55 (c 85 [(nthV A 0), (vi 1)] h42 (fun x58 h59 =>
p_fld x58 1 fun x60 =>
p_gen (.build [(vi 0), (vi 0), vS, (vi 0), (vi 0), (vi 0), (vi 0), (.int .u64 (.ofNat 0)), .nilSlice] [(0, 1, (.c (vi 11))), (1, 1, (.t 35)), (2, 1, (.t 38))]) [(35, x6), (38, x60)] h59 fun x61 h62 k63 =>
(fun (x64 : AV) (h65 : AHeap) =>
p_store 9 x64 x61 h65 fun h66 b67 =>
c 90 [(nthV A 0), (.str [58, 61])] h66 (fun x70 h71 =>
c 96 [(nthV A 0)] h71 (fun x74 h75 =>
p_gen (.bslice 9 [(vi 0), (vi 0), vS, (vi 0), (vi 0), (vi 0), (vi 0), (.int .u64 (.ofNat 0)), .nilSlice] 1 [(0, 9, (.t 43))]) [(43, x74)] h75 fun x76 h77 k78 =>
p_faddr 8 x64 fun x79 =>
p_store 1 x79 x76 h77 fun h80 b81 =>
p_loadN 9 x64 h80 fun x82 b83 =>
p_store 9 x0 x82 h80 fun h84 b85 =>
p_loadN 9 x0 h84 fun x86 b87 => kr x86 h84) kp) kp) (.ptr h62.n (nat_lit 0)) (alQ h62 (.cells .own (nat_lit 0) [(vi 0), (vi 0), vS, (vi 0), (vi 0), (vi 0), (vi 0), (.int .u64 (.ofNat 0)), .nilSlice]))) kp) (p_eq x53 (.str [40]) fun x88 =>
p_if x88 (c 85 [(nthV A 0), (vi 1)] h42 (fun x91 h92 =>
p_fld x91 1 fun x93 =>
p_gen (.build [(vi 0), (vi 0), vS, (vi 0), (vi 0), (vi 0), (vi 0), (.int .u64 (.ofNat 0)), .nilSlice] [(0, 1, (.c (vi 13))), (1, 1, (.t 49)), (2, 1, (.t 52))]) [(49, x6), (52, x93)] h92 fun x94 h95 k96 =>
(fun (x97 : AV) (h98 : AHeap) =>
p_store 9 x97 x94 h98 fun h99 b100 =>
c 187 [(nthV A 0)] h99 (fun x103 h104 =>
p_faddr 8 x97 fun x105 =>
p_store 1 x105 x103 h104 fun h106 b107 =>
p_loadN 9 x97 h106 fun x108 b109 =>
p_store 9 x0 x108 h106 fun h110 b111 =>
p_loadN 9 x0 h110 fun x112 b113 => kr x112 h110) kp) (.ptr h95.n (nat_lit 0)) (alQ h95 (.cells .own (nat_lit 0) [(vi 0), (vi 0), vS, (vi 0), (vi 0), (vi 0), (vi 0), (.int .u64 (.ofNat 0)), .nilSlice]))) kp) (j45 [] h42))) (nthV A 0)) (j45 [] h42)) fun l46 h47 =>
c 199 [(nthV A 0)] h47 (fun x116 h117 =>
(fun (x118 : AV) (h119 : AHeap) =>
p_store 9 x118 x116 h119 fun h120 b121 =>
p_faddr 0 x118 fun x122 =>
p_load1 x122 h120 fun x123 b124 =>
p_eq x123 (vi 28) fun x125 =>
joinV (fun j126 => p_yes x125 (j126 (nthV A 0) h120) (j126 undefA h120)) fun x127 h128 =>
joinV (fun j129 => p_yes x125 (p_gen (.bslice 1 [vS] 1 [(0, 1, (.c (.str [61])))]) [] h128 fun x132 h133 k134 =>
j129 x132 h133) (j129 undefA h128)) fun x130 h131 =>
joinV (fun j135 => p_yes x125 (c 84 [x127, x130] h131 (fun x140 h141 =>
j135 x140 h141) kp) (j135 undefA h131)) fun x136 h137 =>
joinV (fun j142 => p_yes x125 (p_not x136 fun x145 =>
j142 x145 h137) (j142 undefA h137)) fun x143 h144 =>
p_pick x125 x143 vF fun x146 =>
joinL (fun j147 => p_if x146 (
c 83 [(nthV A 0)] h144 (fun x152 h153 =>
j147 [] h153) kp) (j147 [] h144)) fun l148 h149 =>
c 90 [(nthV A 0), (.str [61])] h149 (fun x156 h157 =>
p_loadN 9 x118 h157 fun x158 b159 =>
c 96 [(nthV A 0)] h157 (fun x162 h163 =>
ifB (okAll .big h157 h163 [⟨1, (.rd b159), h157, h157⟩]) (
p_gen (.bslice 9 [(vi 0), (vi 0), vS, (vi 0), (vi 0), (vi 0), (vi 0), (.int .u64 (.ofNat 0)), .nilSlice, (vi 0), (vi 0), vS, (vi 0), (vi 0), (vi 0), (vi 0), (.int .u64 (.ofNat 0)), .nilSlice] 2 [(0, 9, (.t 74)), (9, 9, (.t 76))]) [(74, x158), (76, x162)] h163 fun x164 h165 k166 =>
p_gen (.build [(vi 0), (vi 0), vS, (vi 0), (vi 0), (vi 0), (vi 0), (.int .u64 (.ofNat 0)), .nilSlice] [(0, 1, (.c (vi 10))), (1, 1, (.t 73)), (8, 1, (.t 77))]) [(73, x6), (77, x164)] h165 fun x167 h168 k169 =>
p_store 9 x0 x167 h168 fun h170 b171 =>
p_loadN 9 x0 h170 fun x172 b173 => kr x172 h170) false) (fun p160 h161 => ifB (okAll .big h157 h161 [⟨1, (.rd b159), h157, h157⟩]) (
kp p160 h161) false)) kp) (.ptr h117.n (nat_lit 0)) (alQ h117 (.cells .own (nat_lit 0) [(vi 0), (vi 0), vS, (vi 0), (vi 0), (vi 0), (vi 0), (.int .u64 (.ofNat 0)), .nilSlice]))) kp) (nthV A 0)) kp) (.ptr h.n (nat_lit 0)) (alQ h (.cells .own (nat_lit 0) [(vi 0), (vi 0), vS, (vi 0), (vi 0), (vi 0), (vi 0), (.int .u64 (.ofNat 0)), .nilSlice]))) false
noncomputable def h187 : FBody := fun c D k A h kr kp => ifB (Nat.beq (lenV A) 1) (
c 131 [(nthV A 0), (.str [40])] h (fun x2 h3 =>
p_gen (.bslice 1 [vS] 1 [(0, 1, (.c (.str [41])))]) [] h3 fun x4 h5 k6 =>
c 84 [(nthV A 0), x4] h5 (fun x9 h10 =>
p_not x9 fun x11 =>
joinL (fun j12 =>
loopB k (fun r15 l16 h17 =>
joinL (fun j18 => p_if (nthV l16 1) (
j18 [] h17) (j12 [(nthV l16 0)] h17)) fun l19 h20 =>
joinL (fun j21 =>
c 96 [(nthV A 0)] h20 (fun x26 h27 =>
p_gen (.bslice 9 [(vi 0), (vi 0), vS, (vi 0), (vi 0), (vi 0), (vi 0), (.int .u64 (.ofNat 0)), .nilSlice] 1 [(0, 9, (.t 16))]) [(16, x26)] h27 fun x28 h29 k30 =>
p_gen (.append 9 96 (.t 14) (.t 17)) [(14, (nthV l16 0)), (17, x28)] h29 fun x31 h32 k33 =>
j21 [x31] h32) kp) fun l22 h23 =>
c 130 [(nthV A 0), (.str [44])] h23 (fun x36 h37 =>
r15 [(nthV l22 0), x36] h37) kp) [.nilSlice, x11] h10) fun l13 h14 =>
c 133 [(nthV A 0), (.str [41])] h14 (fun x40 h41 =>
kr (nthV l13 0) h41) kp) kp) kp) false
noncomputable def h188 : FBody := fun c D k A h kr kp => ifB (Nat.beq (lenV A) 3) (
(fun (x0 : AV) (h1 : AHeap) =>
c 49 [(nthV A 0)] h1 (fun x4 h5 =>
p_fld x4 4 fun x6 =>
p_gen (.build [(vi 0), (vi 0), vS, (vi 0), (vi 0), (vi 0), (vi 0), (.int .u64 (.ofNat 0)), .nilSlice] [(0, 1, (.t 8)), (1, 1, (.t 11))]) [(8, (nthV A 1)), (11, x6)] h5 fun x7 h8 k9 =>
(fun (x10 : AV) (h11 : AHeap) =>
p_store 9 x10 x7 h11 fun h12 b13 =>
asNil (
p_faddr 0 (nthV A 0) fun x14 =>
p_load1 x14 h12 fun x15 b16 =>
p_gen (.slc 5 (.t 17) (some (.c (vi 1))) none none) [(17, x15)] h12 fun x17 h18 k19 =>
asNil (
p_faddr 0 (nthV A 0) fun x20 =>
p_store 1 x20 x17 h18 fun h21 b22 =>
c 85 [(nthV A 0), (vi 1)] h21 (fun x25 h26 =>
p_fld x25 1 fun x27 =>
p_faddr 2 x10 fun x28 =>
p_store 1 x28 x27 h26 fun h29 b30 =>
p_eq (nthV A 2) (vi 0) fun x31 =>
joinL (fun j32 => p_if x31 (
p_loadN 9 x10 h29 fun x35 b36 =>
p_store 9 x0 x35 h29 fun h37 b38 =>
p_loadN 9 x0 h37 fun x39 b40 => kr x39 h37) (j32 [] h29)) fun l33 h34 =>
c 90 [(nthV A 0), (.str [44])] h34 (fun x43 h44 =>
p_eq (nthV A 2) (vi 1) fun x45 =>
joinL (fun j46 => p_if x45 (
c 96 [(nthV A 0)] h44 (fun x51 h52 =>
p_gen (.bslice 9 [(vi 0), (vi 0), vS, (vi 0), (vi 0), (vi 0), (vi 0), (.int .u64 (.ofNat 0)), .nilSlice] 1 [(0, 9, (.t 33))]) [(33, x51)] h52 fun x53 h54 k55 =>
p_faddr 8 x10 fun x56 =>
p_store 1 x56 x53 h54 fun h57 b58 =>
j46 [] h57) kp) (c 199 [(nthV A 0)] h44 (fun x61 h62 =>
p_gen (.bslice 9 [(vi 0), (vi 0), vS, (vi 0), (vi 0), (vi 0), (vi 0), (.int .u64 (.ofNat 0)), .nilSlice] 1 [(0, 9, (.t 37))]) [(37, x61)] h62 fun x63 h64 k65 =>
p_faddr 8 x10 fun x66 =>
p_store 1 x66 x63 h64 fun h67 b68 =>
j46 [] h67) kp)) fun l47 h48 =>
p_loadN 9 x10 h48 fun x69 b70 =>
p_store 9 x0 x69 h48 fun h71 b72 =>
p_loadN 9 x0 h71 fun x73 b74 => kr x73 h71) kp) kp) (nthV A 0)) (nthV A 0)) (.ptr h8.n (nat_lit 0)) (alQ h8 (.cells .own (nat_lit 0) [(vi 0), (vi 0), vS, (vi 0), (vi 0), (vi 0), (vi 0), (.int .u64 (.ofNat 0)), .nilSlice]))) kp) (.ptr h.n (nat_lit 0)) (alQ h (.cells .own (nat_lit 0) [(vi 0), (vi 0), vS, (vi 0), (vi 0), (vi 0), (vi 0), (.int .u64 (.ofNat 0)), .nilSlice]))) false
noncomputable def h189 : FBody := fun c D k A h kr kp => ifB (Nat.beq (lenV A) 1) (
(fun (x0 : AV) (h1 : AHeap) =>
(fun (x2 : AV) => p_gen (.bslice 1 [vS, vS] 2 [(0, 1, (.c (.str [43]))), (1, 1, (.c (.str [45])))]) [] h1 fun x3 h4 k5 =>
c 136 [(nthV A 0), x2, vT, x3] h4 (fun x8 h9 =>
p_store 9 x0 x8 h9 fun h10 b11 =>
p_loadN 9 x0 h10 fun x12 b13 => kr x12 h10) kp) (.func (.func 200) [(nthV A 0)] [])) (.ptr h.n (nat_lit 0)) (alQ h (.cells .own (nat_lit 0) [(vi 0), (vi 0), vS, (vi 0), (vi 0), (vi 0), (vi 0), (.int .u64 (.ofNat 0)), .nilSlice]))) false
noncomputable def h190 : FBody := fun c D k A h kr kp => ifB (Nat.beq (lenV A) 2) (
p_gen (.box (.t 0)) [(0, (nthV A 0))] h fun x0 h1 k2 =>
p_gen (.box (.t 1)) [(1, (nthV A 1))] h1 fun x3 h4 k5 =>
p_loadN 0 x0 h4 fun x6 b7 =>
p_faddr 0 x3 fun x8 =>
p_load1 x8 h4 fun x9 b10 =>
p_eq x9 (vi 28) fun x11 =>
joinV (fun j12 => p_no x11 (p_faddr 0 x3 fun x15 =>
j12 x15 h4) (j12 undefA h4)) fun x13 h14 =>
joinV (fun j16 => p_no x11 (p_load1 x13 h14 fun x19 b20 =>
j16 x19 h14) (j16 undefA h14)) fun x17 h18 =>
joinV (fun j21 => p_no x11 (p_eq x17 (vi 29) fun x24 =>
j21 x24 h18) (j21 undefA h18)) fun x22 h23 =>
p_pick x11 vT x22 fun x25 =>
c 98 [x6, x25] h23 (fun x28 h29 =>
p_loadN 0 x0 h29 fun x30 b31 =>
p_loadN 9 x3 h29 fun x32 b33 =>
c 68 [x30, x32] h29 (fun x36 h37 =>
kr undefA h37) kp) kp) false
noncomputable def h198 : FBody := fun c D k A h kr kp => ifB (Nat.beq (lenV A) 2) (
c 203 [(nthV A 0), (nthV A 1)] h (fun x2 h3 =>
kr x2 h3) kp) false
noncomputable def h199 : FBody := fun c D k A h kr kp => ifB (Nat.beq (lenV A) 1) (
(fun (x0 : AV) (h1 : AHeap) =>
c 85 [(nthV A 0), (vi 1)] h1 (fun x4 h5 =>
(fun (x6 : AV) (h7 : AHeap) =>
p_store 5 x6 x4 h7 fun h8 b9 =>
p_faddr 4 x6 fun x10 =>
p_load1 x10 h8 fun x11 b12 =>
p_faddr 1 x6 fun x13 =>
p_load1 x13 h8 fun x14 b15 =>
p_gen (.build [(vi 0), (vi 0), vS, (vi 0), (vi 0), (vi 0), (vi 0), (.int .u64 (.ofNat 0)), .nilSlice] [(0, 1, (.c (vi 28))), (1, 1, (.t 8)), (2, 1, (.t 10))]) [(8, x11), (10, x14)] h8 fun x16 h17 k18 =>
(fun (x19 : AV) (h20 : AHeap) =>
p_store 9 x19 x16 h20 fun h21 b22 =>
p_gen (.bslice 1 [vS] 1 [(0, 1, (.c (.str [91])))]) [] h21 fun x23 h24 k25 =>
c 84 [(nthV A 0), x23] h24 (fun x28 h29 =>
joinL (fun j30 => p_if x28 (
p_faddr 0 x19 fun x33 =>
p_store 1 x33 (vi 29) h29 fun h34 b35 =>
c 131 [(nthV A 0), (.str [91])] h34 (fun x38 h39 =>
c 96 [(nthV A 0)] h39 (fun x42 h43 =>
p_gen (.bslice 9 [(vi 0), (vi 0), vS, (vi 0), (vi 0), (vi 0), (vi 0), (.int .u64 (.ofNat 0)), .nilSlice] 1 [(0, 9, (.t 19))]) [(19, x42)] h43 fun x44 h45 k46 =>
p_faddr 8 x19 fun x47 =>
p_store 1 x47 x44 h45 fun h48 b49 =>
c 133 [(nthV A 0), (.str [93])] h48 (fun x52 h53 =>
j30 [] h53) kp) kp) kp) (j30 [] h29)) fun l31 h32 =>
p_loadN 9 x19 h32 fun x54 b55 =>
p_store 9 x0 x54 h32 fun h56 b57 =>
p_loadN 9 x0 h56 fun x58 b59 => kr x58 h56) kp) (.ptr h17.n (nat_lit 0)) (alQ h17 (.cells .own (nat_lit 0) [(vi 0), (vi 0), vS, (vi 0), (vi 0), (vi 0), (vi 0), (.int .u64 (.ofNat 0)), .nilSlice]))) (.ptr h5.n (nat_lit 0)) (alQ h5 (.cells .own (nat_lit 0) [(vi 0), vS, (vi 0), (.int .u64 (.ofNat 0)), (vi 0)]))) kp) (.ptr h.n (nat_lit 0)) (alQ h (.cells .own (nat_lit 0) [(vi 0), (vi 0), vS, (vi 0), (vi 0), (vi 0), (vi 0), (.int .u64 (.ofNat 0)), .nilSlice]))) false
noncomputable def h200 : FBody := fun c D k A h kr kp => ifB (Nat.beq (lenV A) 1) (
(fun (x0 : AV) (h1 : AHeap) =>
(fun (x2 : AV) => p_gen (.bslice 1 [vS, vS, vS] 3 [(0, 1, (.c (.str [42]))), (1, 1, (.c (.str [47]))), (2, 1, (.c (.str [37])))]) [] h1 fun x3 h4 k5 =>
c 136 [(nthV A 0), x2, vT, x3] h4 (fun x8 h9 =>
p_store 9 x0 x8 h9 fun h10 b11 =>
p_loadN 9 x0 h10 fun x12 b13 => kr x12 h10) kp) (.func (.func 204) [(nthV A 0)] [])) (.ptr h.n (nat_lit 0)) (alQ h (.cells .own (nat_lit 0) [(vi 0), (vi 0), vS, (vi 0), (vi 0), (vi 0), (vi 0), (.int .u64 (.ofNat 0)), .nilSlice]))) false
noncomputable def h204 : FBody := fun c D k A h kr kp => ifB (Nat.beq (lenV A) 1) (
(fun (x0 : AV) (h1 : AHeap) =>
p_gen (.bslice 1 [vS, vS] 2 [(0, 1, (.c (.str [45]))), (1, 1, (.c (.str [33])))]) [] h1 fun x2 h3 k4 =>
c 84 [(nthV A 0), x2] h3 (fun x7 h8 =>
p_not x7 fun x9 =>
joinL (fun j10 => p_if x9 (
c 205 [(nthV A 0)] h8 (fun x15 h16 =>
p_store 9 x0 x15 h16 fun h17 b18 =>
p_loadN 9 x0 h17 fun x19 b20 => kr x19 h17) kp) (j10 [] h8)) fun l11 h12 =>
c 49 [(nthV A 0)] h12 (fun x23 h24 =>
p_fld x23 1 fun x25 =>
c 131 [(nthV A 0), x25] h24 (fun x28 h29 =>
(fun (x30 : AV) (h31 : AHeap) =>
p_store 5 x30 x28 h31 fun h32 b33 =>
(fun (x34 : AV) (h35 : AHeap) =>
p_faddr 4 x30 fun x36 =>
p_load1 x36 h35 fun x37 b38 =>
ifB (okAll (.rd b38) h35 h35 [⟨8, .new, h32, h35⟩]) (
p_faddr 1 x30 fun x39 =>
p_load1 x39 h35 fun x40 b41 =>
ifB (okAll (.rd b41) h35 h35 [⟨1, (.rd b38), h35, h35⟩, ⟨8, .new, h32, h35⟩]) (
c 204 [(nthV A 0)] h35 (fun x44 h45 =>
ifB (okAll .big h35 h45 [⟨3, (.rd b41), h35, h35⟩, ⟨1, (.rd b38), h35, h35⟩, ⟨8, .new, h32, h35⟩]) (
p_gen (.bslice 9 [(vi 0), (vi 0), vS, (vi 0), (vi 0), (vi 0), (vi 0), (.int .u64 (.ofNat 0)), .nilSlice] 1 [(0, 9, (.t 21))]) [(21, x44)] h45 fun x46 h47 k48 =>
ifB (okAll k48 h45 h47 [⟨3, (.rd b41), h35, h35⟩, ⟨1, (.rd b38), h35, h35⟩, ⟨8, .new, h32, h35⟩]) (
p_gen (.build [(vi 0), (vi 0), vS, (vi 0), (vi 0), (vi 0), (vi 0), (.int .u64 (.ofNat 0)), .nilSlice] [(0, 1, (.c (vi 30))), (1, 1, (.t 17)), (2, 1, (.t 19)), (8, 1, (.t 22))]) [(17, x37), (19, x40), (22, x46)] h47 fun x49 h50 k51 =>
ifB (okAll k51 h47 h50 [⟨8, .new, h32, h35⟩]) (
p_store 9 x34 x49 h50 fun h52 b53 =>
asNil (
p_faddr 2 (nthV A 0) fun x54 =>
p_load1 x54 h52 fun x55 b56 =>
p_bin .sub fiSub x55 (vi 1) fun x57 =>
asNil (
p_faddr 2 (nthV A 0) fun x58 =>
p_store 1 x58 x57 h52 fun h59 b60 =>
p_loadN 9 x34 h59 fun x61 b62 =>
p_store 9 x0 x61 h59 fun h63 b64 =>
p_loadN 9 x0 h63 fun x65 b66 => kr x65 h63) (nthV A 0)) (nthV A 0)) false) false) false) (fun p42 h43 => ifB (okAll .big h35 h43 [⟨3, (.rd b41), h35, h35⟩, ⟨1, (.rd b38), h35, h35⟩, ⟨8, .new, h32, h35⟩]) (
kp p42 h43) false)) false) false) (.ptr h32.n (nat_lit 0)) (alQ h32 (.cells .own (nat_lit 0) [(vi 0), (vi 0), vS, (vi 0), (vi 0), (vi 0), (vi 0), (.int .u64 (.ofNat 0)), .nilSlice]))) (.ptr h29.n (nat_lit 0)) (alQ h29 (.cells .own (nat_lit 0) [(vi 0), vS, (vi 0), (.int .u64 (.ofNat 0)), (vi 0)]))) kp) kp) kp) (.ptr h.n (nat_lit 0)) (alQ h (.cells .own (nat_lit 0) [(vi 0), (vi 0), vS, (vi 0), (vi 0), (vi 0), (vi 0), (.int .u64 (.ofNat 0)), .nilSlice]))) false
noncomputable def h205 : FBody := fun c D k A h kr kp => ifB (Nat.beq (lenV A) 1) (
(fun (x0 : AV) (h1 : AHeap) =>
c 49 [(nthV A 0)] h1 (fun x4 h5 =>
(fun (x6 : AV) (h7 : AHeap) =>
p_store 5 x6 x4 h7 fun h8 b9 =>
joinL (fun j10 =>
p_faddr 0 x6 fun x13 =>
p_load1 x13 h8 fun x14 b15 =>
p_eq x14 (vi 3) fun x16 =>
p_if x16 (p_faddr 4 x6 fun x17 =>
p_load1 x17 h8 fun x18 b19 =>
c 85 [(nthV A 0), (vi 3)] h8 (fun x22 h23 =>
ifB (okAll .big h8 h23 [⟨1, (.rd b19), h8, h8⟩]) (
p_fld x22 2 fun x24 =>
p_gen (.build [(vi 0), (vi 0), vS, (vi 0), (vi 0), (vi 0), (vi 0), (.int .u64 (.ofNat 0)), .nilSlice] [(0, 1, (.c (vi 25))), (1, 1, (.t 13)), (4, 1, (.t 16))]) [(13, x18), (16, x24)] h23 fun x25 h26 k27 =>
p_store 9 x0 x25 h26 fun h28 b29 =>
p_loadN 9 x0 h28 fun x30 b31 => kr x30 h28) false) (fun p20 h21 => ifB (okAll .big h8 h21 [⟨1, (.rd b19), h8, h8⟩]) (
kp p20 h21) false)) (p_faddr 0 x6 fun x32 =>
p_load1 x32 h8 fun x33 b34 =>
p_eq x33 (vi 4) fun x35 =>
p_if x35 (p_faddr 4 x6 fun x36 =>
p_load1 x36 h8 fun x37 b38 =>
c 85 [(nthV A 0), (vi 4)] h8 (fun x41 h42 =>
ifB (okAll .big h8 h42 [⟨1, (.rd b38), h8, h8⟩]) (
p_fld x41 3 fun x43 =>
p_gen (.build [(vi 0), (vi 0), vS, (vi 0), (vi 0), (vi 0), (vi 0), (.int .u64 (.ofNat 0)), .nilSlice] [(0, 1, (.c (vi 26))), (1, 1, (.t 23)), (7, 1, (.t 26))]) [(23, x37), (26, x43)] h42 fun x44 h45 k46 =>
p_store 9 x0 x44 h45 fun h47 b48 =>
p_loadN 9 x0 h47 fun x49 b50 => kr x49 h47) false) (fun p39 h40 => ifB (okAll .big h8 h40 [⟨1, (.rd b38), h8, h8⟩]) (
kp p39 h40) false)) (p_faddr 0 x6 fun x51 =>
p_load1 x51 h8 fun x52 b53 =>
p_eq x52 (vi 1) fun x54 =>
p_if x54 (c 199 [(nthV A 0)] h8 (fun x57 h58 =>
p_store 9 x0 x57 h58 fun h59 b60 =>
p_loadN 9 x0 h59 fun x61 b62 => kr x61 h59) kp) (c 130 [(nthV A 0), (.str [116, 114, 117, 101])] h8 (fun x65 h66 =>
p_if x65 (p_faddr 4 x6 fun x67 =>
p_load1 x67 h66 fun x68 b69 =>
p_gen (.build [(vi 0), (vi 0), vS, (vi 0), (vi 0), (vi 0), (vi 0), (.int .u64 (.ofNat 0)), .nilSlice] [(0, 1, (.c (vi 27))), (1, 1, (.t 38)), (4, 1, (.c (vi 1)))]) [(38, x68)] h66 fun x70 h71 k72 =>
p_store 9 x0 x70 h71 fun h73 b74 =>
p_loadN 9 x0 h73 fun x75 b76 => kr x75 h73) (c 130 [(nthV A 0), (.str [102, 97, 108, 115, 101])] h66 (fun x79 h80 =>
p_if x79 (p_faddr 4 x6 fun x81 =>
p_load1 x81 h80 fun x82 b83 =>
p_gen (.build [(vi 0), (vi 0), vS, (vi 0), (vi 0), (vi 0), (vi 0), (.int .u64 (.ofNat 0)), .nilSlice] [(0, 1, (.c (vi 27))), (1, 1, (.t 44))]) [(44, x82)] h80 fun x84 h85 k86 =>
p_store 9 x0 x84 h85 fun h87 b88 =>
p_loadN 9 x0 h87 fun x89 b90 => kr x89 h87) (p_gen (.bslice 1 [vS, vS] 2 [(0, 1, (.c (.str [105, 110, 116]))), (1, 1, (.c (.str [102, 108, 111, 97, 116])))]) [] h80 fun x91 h92 k93 =>
c 84 [(nthV A 0), x91] h92 (fun x96 h97 =>
p_if x96 (asNil (
p_faddr 0 (nthV A 0) fun x98 =>
p_load1 x98 h97 fun x99 b100 =>
p_gen (.slc 5 (.t 54) (some (.c (vi 1))) none none) [(54, x99)] h97 fun x101 h102 k103 =>
asNil (
p_faddr 0 (nthV A 0) fun x104 =>
p_store 1 x104 x101 h102 fun h105 b106 =>
c 131 [(nthV A 0), (.str [40])] h105 (fun x109 h110 =>
(fun (x111 : AV) (h112 : AHeap) =>
p_faddr 4 x6 fun x113 =>
p_load1 x113 h112 fun x114 b115 =>
ifB (okAll (.rd b115) h112 h112 [⟨8, .new, h110, h112⟩]) (
p_faddr 1 x6 fun x116 =>
p_load1 x116 h112 fun x117 b118 =>
ifB (okAll (.rd b118) h112 h112 [⟨1, (.rd b115), h112, h112⟩, ⟨8, .new, h110, h112⟩]) (
c 96 [(nthV A 0)] h112 (fun x121 h122 =>
ifB (okAll .big h112 h122 [⟨3, (.rd b118), h112, h112⟩, ⟨1, (.rd b115), h112, h112⟩, ⟨8, .new, h110, h112⟩]) (
p_gen (.bslice 9 [(vi 0), (vi 0), vS, (vi 0), (vi 0), (vi 0), (vi 0), (.int .u64 (.ofNat 0)), .nilSlice] 1 [(0, 9, (.t 65))]) [(65, x121)] h122 fun x123 h124 k125 =>
ifB (okAll k125 h122 h124 [⟨3, (.rd b118), h112, h112⟩, ⟨1, (.rd b115), h112, h112⟩, ⟨8, .new, h110, h112⟩]) (
p_gen (.build [(vi 0), (vi 0), vS, (vi 0), (vi 0), (vi 0), (vi 0), (.int .u64 (.ofNat 0)), .nilSlice] [(0, 1, (.c (vi 30))), (1, 1, (.t 61)), (2, 1, (.t 63)), (8, 1, (.t 66))]) [(61, x114), (63, x117), (66, x123)] h124 fun x126 h127 k128 =>
ifB (okAll k128 h124 h127 [⟨8, .new, h110, h112⟩]) (
p_store 9 x111 x126 h127 fun h129 b130 =>
c 133 [(nthV A 0), (.str [41])] h129 (fun x133 h134 =>
p_loadN 9 x111 h134 fun x135 b136 =>
p_store 9 x0 x135 h134 fun h137 b138 =>
p_loadN 9 x0 h137 fun x139 b140 => kr x139 h137) kp) false) false) false) (fun p119 h120 => ifB (okAll .big h112 h120 [⟨3, (.rd b118), h112, h112⟩, ⟨1, (.rd b115), h112, h112⟩, ⟨8, .new, h110, h112⟩]) (
kp p119 h120) false)) false) false) (.ptr h110.n (nat_lit 0)) (alQ h110 (.cells .own (nat_lit 0) [(vi 0), (vi 0), vS, (vi 0), (vi 0), (vi 0), (vi 0), (.int .u64 (.ofNat 0)), .nilSlice]))) kp) (nthV A 0)) (nthV A 0)) (j10 [] h97)) kp)) kp)) kp)))) fun l11 h12 =>
c 131 [(nthV A 0), (.str [40])] h12 (fun x143 h144 =>
c 96 [(nthV A 0)] h144 (fun x147 h148 =>
(fun (x149 : AV) (h150 : AHeap) =>
p_store 9 x149 x147 h150 fun h151 b152 =>
c 133 [(nthV A 0), (.str [41])] h151 (fun x155 h156 =>
p_loadN 9 x149 h156 fun x157 b158 =>
p_store 9 x0 x157 h156 fun h159 b160 =>
p_loadN 9 x0 h159 fun x161 b162 => kr x161 h159) kp) (.ptr h148.n (nat_lit 0)) (alQ h148 (.cells .own (nat_lit 0) [(vi 0), (vi 0), vS, (vi 0), (vi 0), (vi 0), (vi 0), (.int .u64 (.ofNat 0)), .nilSlice]))) kp) kp) (.ptr h5.n (nat_lit 0)) (alQ h5 (.cells .own (nat_lit 0) [(vi 0), vS, (vi 0), (.int .u64 (.ofNat 0)), (vi 0)]))) kp) (.ptr h.n (nat_lit 0)) (alQ h (.cells .own (nat_lit 0) [(vi 0), (vi 0), vS, (vi 0), (vi 0), (vi 0), (vi 0), (.int .u64 (.ofNat 0)), .nilSlice]))) false
end Go.Ev
