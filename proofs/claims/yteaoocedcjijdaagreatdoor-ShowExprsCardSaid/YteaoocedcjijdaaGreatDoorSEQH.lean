/- The functions as the fast evaluator runs them: printed by program. -/
import Derived.Test.YteaoocedcjijdaaGreatDoorEvC
set_option linter.all false
set_option linter.unusedVariables false
set_option linter.unusedSimpArgs false
set_option linter.all false
set_option linter.unusedVariables false
namespace Go.Ev
open Go
set_option maxRecDepth 100000
noncomputable def h18:FBody:=fun c D k A h kr kp=>ifB (Nat.beq (lenV A) 1) (
(fun (x0:AV) (h1:AHeap)=>
(fun (x2:AV) (h3:AHeap)=>
c 46 [(nthV A 0),(.func (.func 47) [] [])] h3 (fun x6 h7=>
p_ext x6 0 fun x8=>
p_ext x6 1 fun x9=>
p_store 9 x0 x8 h7 fun h10 b11=>
p_store 2 x2 x9 h10 fun h12 b13=>
p_loadN 9 x0 h12 fun x14 b15=>p_loadN 2 x2 h12 fun x16 b17=>kr (.tuple [x14,x16]) h12) kp) (.ptr h1.n (nat_lit 0)) (alQ h1 (.cells .own (nat_lit 0) [.nilIface,(vi 0)]))) (.ptr h.n (nat_lit 0)) (alQ h (.cells .own (nat_lit 0) [(vi 0),(vi 0),vS,(vi 0),(vi 0),(vi 0),(vi 0),(.int .u64 (.ofNat 0)),.nilSlice]))) false
noncomputable def h20:FBody:=fun c D k A h kr kp=>ifB (Nat.beq (lenV A) 0) (
c 25 [(.str [40,49,43,50,41,42,51])] h (fun x2 h3=>
p_ext x2 0 fun x4=>
p_ext x2 1 fun x5=>
(fun (x6:AV) (h7:AHeap)=>
(fun (x8:AV) (h9:AHeap)=>
p_store 9 x6 x4 h9 fun h10 b11=>
p_store 2 x8 x5 h10 fun h12 b13=>
p_faddr 0 x8 fun x14=>
p_load1 x14 h12 fun x15 b16=>
p_eqv true (.one .iface) x15 .nilIface fun x17=>
joinL (fun j18=>p_if x17 (
kr vF h12) (j18 [vF] h12)) fun l19 h20=>
p_loadN 9 x6 h20 fun x21 b22=>
c 24 [x21] h20 (fun x25 h26=>
p_ext x25 0 fun x27=>
p_ext x25 1 fun x28=>
c 50 [(.str [118,97,114,32,120,32,105,110,116,59,102,117,110,99,32,109,97,105,110,40,41,123,120,61,49,45,40,50,45,51,41,59,125])] h26 (fun x31 h32=>
p_ext x31 0 fun x33=>
p_ext x31 1 fun x34=>
(fun (x35:AV) (h36:AHeap)=>
p_store 2 x35 x34 h36 fun h37 b38=>
p_eqv false (.one .iface) x28 .nilIface fun x39=>
joinV (fun j40=>p_yes x39 (j40 x27 h37) (j40 undefA h37)) fun x41 h42=>
joinV (fun j43=>p_yes x39 (p_eq x41 (.str [40,49,32,43,32,50,41,32,42,32,51]) fun x46=>
j43 x46 h42) (j43 undefA h42)) fun x44 h45=>
p_pick x39 x44 vF fun x47=>
joinV (fun j48=>p_yes x47 (p_faddr 0 x35 fun x51=>
j48 x51 h45) (j48 undefA h45)) fun x49 h50=>
joinV (fun j52=>p_yes x47 (p_load1 x49 h50 fun x55 b56=>
j52 x55 h50) (j52 undefA h50)) fun x53 h54=>
joinV (fun j57=>p_yes x47 (p_eqv false (.one .iface) x53 .nilIface fun x60=>
j57 x60 h54) (j57 undefA h54)) fun x58 h59=>
p_pick x47 x58 vF fun x61=>
joinV (fun j62=>p_yes x61 (j62 x33 h59) (j62 undefA h59)) fun x63 h64=>
joinV (fun j65=>p_yes x61 (p_eq x63 (.str [118,97,114,32,120,32,105,110,116,59,10,102,117,110,99,32,109,97,105,110,40,41,32,123,10,9,120,32,61,32,49,32,45,32,40,50,32,45,32,51,41,59,10,125,10]) fun x68=>
j65 x68 h64) (j65 undefA h64)) fun x66 h67=>
p_pick x61 x66 vF fun x69=>
kr x69 h67) (.ptr h32.n (nat_lit 0)) (alQ h32 (.cells .own (nat_lit 0) [.nilIface,(vi 0)]))) kp) kp) (.ptr h7.n (nat_lit 0)) (alQ h7 (.cells .own (nat_lit 0) [.nilIface,(vi 0)]))) (.ptr h3.n (nat_lit 0)) (alQ h3 (.cells .own (nat_lit 0) [(vi 0),(vi 0),vS,(vi 0),(vi 0),(vi 0),(vi 0),(.int .u64 (.ofNat 0)),.nilSlice]))) kp) false
noncomputable def h21:FBody:=fun c D k A h kr kp=>ifB (Nat.beq (lenV A) 1) (
p_box (nthV A 0) h fun x0 h1=>
(fun (x2:AV)=>c 51 [x2] h1 (fun x5 h6=>
kr x5 h6) kp) (.func (.func 52) [] [x0])) false
noncomputable def h24:FBody:=fun c D k A h kr kp=>ifB (Nat.beq (lenV A) 1) (
p_box (nthV A 0) h fun x0 h1=>
(fun (x2:AV)=>c 51 [x2] h1 (fun x5 h6=>
p_eqv true (.one .iface) x5 .nilIface fun x7=>
joinL (fun j8=>p_if x7 (
kr (.tuple [vS,x5]) h6) (j8 [vS,.nilIface] h6)) fun l9 h10=>
p_loadN 9 x0 h10 fun x11 b12=>
c 58 [x11] h10 (fun x15 h16=>
kr (.tuple [x15,.nilIface]) h16) kp) kp) (.func (.func 56) [] [x0])) false
noncomputable def h25:FBody:=fun c D k A h kr kp=>ifB (Nat.beq (lenV A) 1) (
(fun (x0:AV) (h1:AHeap)=>
(fun (x2:AV) (h3:AHeap)=>
c 46 [(nthV A 0),(.func (.func 59) [] [])] h3 (fun x6 h7=>
p_ext x6 0 fun x8=>
p_ext x6 1 fun x9=>
p_store 9 x0 x8 h7 fun h10 b11=>
p_store 2 x2 x9 h10 fun h12 b13=>
p_loadN 9 x0 h12 fun x14 b15=>p_loadN 2 x2 h12 fun x16 b17=>kr (.tuple [x14,x16]) h12) kp) (.ptr h1.n (nat_lit 0)) (alQ h1 (.cells .own (nat_lit 0) [.nilIface,(vi 0)]))) (.ptr h.n (nat_lit 0)) (alQ h (.cells .own (nat_lit 0) [(vi 0),(vi 0),vS,(vi 0),(vi 0),(vi 0),(vi 0),(.int .u64 (.ofNat 0)),.nilSlice]))) false
noncomputable def h29:FBody:=fun c D k A h kr kp=>ifB (Nat.beq (lenV A) 1) (
p_box (nthV A 0) h fun x0 h1=>
p_loadN 9 x0 h1 fun x2 b3=>
c 21 [x2] h1 (fun x6 h7=>
p_eqv true (.one .iface) x6 .nilIface fun x8=>
joinL (fun j9=>p_if x8 (
kr (.tuple [vS,x6]) h7) (j9 [vS,.nilIface] h7)) fun l10 h11=>
(fun (x12:AV) (h13:AHeap)=>
p_faddr 8 x0 fun x14=>
p_load1 x14 h13 fun x15 b16=>
p_lenL x15 fun x17=>
joinL (fun j18=>
loopB k (fun r21 l22 h23=>
p_bin .lss fiLss (nthV l22 0) x17 fun x24=>
joinL (fun j25=>p_if x24 (
j25 [] h23) (j18 [] h23)) fun l26 h27=>
joinL (fun j28=>
p_iaddr 9 x15 (nthV l22 0) fun x31=>
p_loadN 9 x31 h27 fun x32 b33=>
(fun (x34:AV) (h35:AHeap)=>
p_store 9 x34 x32 h35 fun h36 b37=>
p_loadN 9 x34 h36 fun x38 b39=>
c 64 [x12,x38] h36 (fun x42 h43=>
j28 [] h43) kp) (.ptr h27.n (nat_lit 0)) (alQ h27 (.cells .own (nat_lit 0) [(vi 0),(vi 0),vS,(vi 0),(vi 0),(vi 0),(vi 0),(.int .u64 (.ofNat 0)),.nilSlice]))) fun l29 h30=>
p_add (nthV l22 0) (vi 1) fun x44=>
r21 [x44] h30) [(vi 0)] h13) fun l19 h20=>
p_faddr 0 x12 fun x45=>
c 65 [x45] h20 (fun x48 h49=>
kr (.tuple [x48,.nilIface]) h49) kp) (.ptr h11.n (nat_lit 0)) (alQ h11 (.cells (.tag 111) (nat_lit 0) [.nilPtr,.nilSlice,(vi 0)]))) kp) false
noncomputable def h33:FBody:=fun c D k A h kr kp=>ifB (Nat.beq (lenV A) 1) (
(fun (x0:AV) (h1:AHeap)=>
(fun (x2:AV) (h3:AHeap)=>
p_lenS (nthV A 0) fun x4=>
p_bin .gtr fiGtr x4 (vi 8192) fun x5=>
joinL (fun j6=>p_if x5 (
p_load1 (.ptr 7 0) h3 fun x9 b10=>
onFill [(0,1,x9)] [.nilIface,(vi 0)] fun l11=>(fun (x12:AV)=>p_store 1 x0 .nilSlice h3 fun h13 b14=>
ifB (okAll (.wr b14) h3 h13 [⟨1,.free,h3,h3⟩,⟨0,(.rd b10),h3,h3⟩]) (
p_store 2 x2 x12 h13 fun h15 b16=>
p_load1 x0 h15 fun x17 b18=>p_loadN 2 x2 h15 fun x19 b20=>kr (.tuple [x17,x19]) h15) false) (.agg l11)) (j6 [] h3)) fun l7 h8=>
(fun (x21:AV)=>p_fn x21 fun g22 a23 b24=>(fun (l25:List AV)=>
onFill [(0,1,(nthV A 0))] [vS,(vi 0)] fun l26=>(fun (x27:AV)=>p_box x27 h8 fun x28 h29=>
c 71 [x28] h29 (fun x37 h38=>
joinL (fun j39=>
loopB k (fun r42 l43 h44=>
asNil (
p_faddr 1 x28 fun x45=>
p_load1 x45 h44 fun x46 b47=>
p_lenS (nthV A 0) fun x48=>
p_bin .lss fiLss x46 x48 fun x49=>
joinL (fun j50=>p_if x49 (
j50 [] h44) (j39 [] h44)) fun l51 h52=>
joinL (fun j53=>
p_load1 x0 h52 fun x56 b57=>
p_lenL x56 fun x58=>
p_eq x58 (vi 2000) fun x59=>
joinL (fun j60=>p_if x59 (
p_load1 (.ptr 7 0) h52 fun x63 b64=>
asNil (
p_faddr 1 x28 fun x65=>
p_load1 x65 h52 fun x66 b67=>
ifB (okAll (.rd b67) h52 h52 [⟨1,(.rd b64),h52,h52⟩]) (
c 72 [x28,x63,x66] h52 (fun x75 h76=>
j60 [] h76) (fun p68 h69=>D g22 l25 (.pan p68) h69 fun h70=>
p_load1 x0 h70 fun x71 b72=>p_loadN 2 x2 h70 fun x73 b74=>kr (.tuple [x71,x73]) h70)) false) x28) (j60 [] h52)) fun l61 h62=>
p_load1 x0 h62 fun x77 b78=>
c 73 [x28] h62 (fun x86 h87=>
ifB (okAll .big h62 h87 [⟨0,(.rd b78),h62,h62⟩]) (
onFill [(0,5,x86)] [(vi 0),vS,(vi 0),(.int .u64 (.ofNat 0)),(vi 0)] fun l88=>ifB (flatsQ l88) ((fun (x89:AV) (h90:AHeap)=>
ifB (okAll .new h87 h90 [⟨0,(.rd b78),h62,h62⟩]) (
p_append .own 5 48 x77 x89 h90 fun x91 h92=>
p_store 1 x0 x91 h92 fun h93 b94=>
j53 [] h93) false) (.slice h87.n (nat_lit 0) 1 1 true) (alQ h87 (.cells .own 5 l88))) false) false) (fun p79 h80=>ifB (okAll .big h62 h80 [⟨0,(.rd b78),h62,h62⟩]) (
D g22 l25 (.pan p79) h80 fun h81=>
p_load1 x0 h81 fun x82 b83=>p_loadN 2 x2 h81 fun x84 b85=>kr (.tuple [x82,x84]) h81) false)) fun l54 h55=>
c 71 [x28] h55 (fun x102 h103=>
r42 [] h103) (fun p95 h96=>D g22 l25 (.pan p95) h96 fun h97=>
p_load1 x0 h97 fun x98 b99=>p_loadN 2 x2 h97 fun x100 b101=>kr (.tuple [x98,x100]) h97)) x28) [] h38) fun l40 h41=>
p_load1 x0 h41 fun x104 b105=>
onFill [] [.nilIface,(vi 0)] fun l106=>(fun (x107:AV)=>p_store 1 x0 x104 h41 fun h108 b109=>
p_store 2 x2 x107 h108 fun h110 b111=>
D g22 l25 .ret h110 fun h112=>
p_load1 x0 h112 fun x113 b114=>p_loadN 2 x2 h112 fun x115 b116=>kr (.tuple [x113,x115]) h112) (.agg l106)) (fun p30 h31=>D g22 l25 (.pan p30) h31 fun h32=>
p_load1 x0 h32 fun x33 b34=>p_loadN 2 x2 h32 fun x35 b36=>kr (.tuple [x33,x35]) h32)) (.agg l26)) (appL a23 b24)) (.func (.func 70) [] [x0,x2])) (.ptr h1.n (nat_lit 0)) (alQ h1 (.cells .own (nat_lit 0) [.nilIface,(vi 0)]))) (.ptr h.n (nat_lit 0)) (alQ h (.cells .own (nat_lit 0) [.nilSlice]))) false
noncomputable def h46:FBody:=fun c D k A h kr kp=>ifB (Nat.beq (lenV A) 2) (
(fun (x0:AV) (h1:AHeap)=>
(fun (x2:AV) (h3:AHeap)=>
c 33 [(nthV A 0)] h3 (fun x6 h7=>
p_ext x6 0 fun x8=>
p_ext x6 1 fun x9=>
p_store 2 x2 x9 h7 fun h10 b11=>
p_faddr 0 x2 fun x12=>
p_load1 x12 h10 fun x13 b14=>
p_eqv true (.one .iface) x13 .nilIface fun x15=>
joinL (fun j16=>p_if x15 (
p_loadN 9 x0 h10 fun x19 b20=>
p_loadN 2 x2 h10 fun x21 b22=>
ifB (okAll (.rd b22) h10 h10 [⟨0,(.rd b20),h10,h10⟩]) (
p_store 9 x0 x19 h10 fun h23 b24=>
ifB (okAll (.wr b24) h10 h23 [⟨1,(.rd b22),h10,h10⟩]) (
p_store 2 x2 x21 h23 fun h25 b26=>
p_loadN 9 x0 h25 fun x27 b28=>p_loadN 2 x2 h25 fun x29 b30=>kr (.tuple [x27,x29]) h25) false) false) (j16 [] h10)) fun l17 h18=>
(fun (x31:AV)=>p_fn x31 fun g32 a33 b34=>(fun (l35:List AV)=>
p_lenS (nthV A 0) fun x36=>
onFill [(0,1,x8),(1,1,x36)] [.nilSlice,(vi 0),(vi 0)] fun l37=>(fun (x38:AV)=>p_box x38 h18 fun x39 h40=>
p_fn (nthV A 1) fun g50 a51 b52=>c g50 (appL a51 (appL [x39] b52)) h40 (fun x48 h49=>
p_store 9 x0 x48 h49 fun h53 b54=>
asNil (
p_faddr 0 x39 fun x55=>
p_load1 x55 h53 fun x56 b57=>
p_lenL x56 fun x58=>
p_bin .gtr fiGtr x58 (vi 0) fun x59=>
joinL (fun j60=>p_if x59 (
c 85 [x39] h53 (fun x70 h71=>
j60 [] h71) (fun p63 h64=>D g32 l35 (.pan p63) h64 fun h65=>
p_loadN 9 x0 h65 fun x66 b67=>p_loadN 2 x2 h65 fun x68 b69=>kr (.tuple [x66,x68]) h65)) (j60 [] h53)) fun l61 h62=>
p_loadN 9 x0 h62 fun x72 b73=>
onFill [] [.nilIface,(vi 0)] fun l74=>(fun (x75:AV)=>p_store 9 x0 x72 h62 fun h76 b77=>
p_store 2 x2 x75 h76 fun h78 b79=>
D g32 l35 .ret h78 fun h80=>
p_loadN 9 x0 h80 fun x81 b82=>p_loadN 2 x2 h80 fun x83 b84=>kr (.tuple [x81,x83]) h80) (.agg l74)) x39) (fun p41 h42=>D g32 l35 (.pan p41) h42 fun h43=>
p_loadN 9 x0 h43 fun x44 b45=>p_loadN 2 x2 h43 fun x46 b47=>kr (.tuple [x44,x46]) h43)) (.agg l37)) (appL a33 b34)) (.func (.func 84) [] [x0,x2])) kp) (.ptr h1.n (nat_lit 0)) (alQ h1 (.cells .own (nat_lit 0) [.nilIface,(vi 0)]))) (.ptr h.n (nat_lit 0)) (alQ h (.cells .own (nat_lit 0) [(vi 0),(vi 0),vS,(vi 0),(vi 0),(vi 0),(vi 0),(.int .u64 (.ofNat 0)),.nilSlice]))) false
noncomputable def h47:FBody:=fun c D k A h kr kp=>ifB (Nat.beq (lenV A) 1) (
(fun (x0:AV) (h1:AHeap)=>
c 48 [(nthV A 0)] h1 (fun x4 h5=>
p_fld x4 4 fun x6=>
onFill [(0,1,(vi 1)),(1,1,x6)] [(vi 0),(vi 0),vS,(vi 0),(vi 0),(vi 0),(vi 0),(.int .u64 (.ofNat 0)),.nilSlice] fun l7=>(fun (x8:AV)=>(fun (x9:AV) (h10:AHeap)=>
p_store 9 x9 x8 h10 fun h11 b12=>
joinL (fun j13=>
loopB k (fun r16 l17 h18=>
asNil (
p_faddr 0 (nthV A 0) fun x19=>
p_load1 x19 h18 fun x20 b21=>
p_lenL x20 fun x22=>
p_bin .gtr fiGtr x22 (vi 0) fun x23=>
joinL (fun j24=>p_if x23 (
j24 [] h18) (j13 [] h18)) fun l25 h26=>
p_faddr 8 x9 fun x27=>
p_load1 x27 h26 fun x28 b29=>
c 49 [(nthV A 0)] h26 (fun x32 h33=>
ifB (okAll .big h26 h33 [⟨1,(.rd b29),h26,h26⟩]) (
onFill [(0,9,x32)] [(vi 0),(vi 0),vS,(vi 0),(vi 0),(vi 0),(vi 0),(.int .u64 (.ofNat 0)),.nilSlice] fun l34=>ifB (flatsQ l34) ((fun (x35:AV) (h36:AHeap)=>
ifB (okAll .new h33 h36 [⟨1,(.rd b29),h26,h26⟩]) (
p_append .own 9 96 x28 x35 h36 fun x37 h38=>
p_faddr 8 x9 fun x39=>
p_store 1 x39 x37 h38 fun h40 b41=>
r16 [] h40) false) (.slice h33.n (nat_lit 0) 1 1 true) (alQ h33 (.cells .own 9 l34))) false) false) (fun p30 h31=>ifB (okAll .big h26 h31 [⟨1,(.rd b29),h26,h26⟩]) (
kp p30 h31) false)) (nthV A 0)) [] h11) fun l14 h15=>
p_loadN 9 x9 h15 fun x42 b43=>
p_store 9 x0 x42 h15 fun h44 b45=>
p_loadN 9 x0 h44 fun x46 b47=>kr x46 h44) (.ptr h5.n (nat_lit 0)) (alQ h5 (.cells .own (nat_lit 0) [(vi 0),(vi 0),vS,(vi 0),(vi 0),(vi 0),(vi 0),(.int .u64 (.ofNat 0)),.nilSlice]))) (.agg l7)) kp) (.ptr h.n (nat_lit 0)) (alQ h (.cells .own (nat_lit 0) [(vi 0),(vi 0),vS,(vi 0),(vi 0),(vi 0),(vi 0),(.int .u64 (.ofNat 0)),.nilSlice]))) false
noncomputable def h48:FBody:=fun c D k A h kr kp=>ifB (Nat.beq (lenV A) 1) (
(fun (x0:AV) (h1:AHeap)=>
asNil (
p_faddr 0 (nthV A 0) fun x2=>
p_load1 x2 h1 fun x3 b4=>
p_lenL x3 fun x5=>
p_eq x5 (vi 0) fun x6=>
joinL (fun j7=>p_if x6 (
asNil (
p_faddr 1 (nthV A 0) fun x10=>
p_load1 x10 h1 fun x11 b12=>
onFill [(4,1,x11)] [(vi 0),vS,(vi 0),(.int .u64 (.ofNat 0)),(vi 0)] fun l13=>(fun (x14:AV)=>p_store 5 x0 x14 h1 fun h15 b16=>
p_loadN 5 x0 h15 fun x17 b18=>kr x17 h15) (.agg l13)) (nthV A 0)) (j7 [] h1)) fun l8 h9=>
asNil (
p_faddr 0 (nthV A 0) fun x19=>
p_load1 x19 h9 fun x20 b21=>
p_iaddr 5 x20 (vi 0) fun x22=>
p_loadN 5 x22 h9 fun x23 b24=>
p_store 5 x0 x23 h9 fun h25 b26=>
p_loadN 5 x0 h25 fun x27 b28=>kr x27 h25) (nthV A 0)) (nthV A 0)) (.ptr h.n (nat_lit 0)) (alQ h (.cells .own (nat_lit 0) [(vi 0),vS,(vi 0),(.int .u64 (.ofNat 0)),(vi 0)]))) false
noncomputable def h49:FBody:=fun c D k A h kr kp=>ifB (Nat.beq (lenV A) 1) (
(fun (x0:AV) (h1:AHeap)=>
c 48 [(nthV A 0)] h1 (fun x4 h5=>
(fun (x6:AV) (h7:AHeap)=>
p_store 5 x6 x4 h7 fun h8 b9=>
onFill [(0,1,(.str [118,97,114])),(1,1,(.str [109,117,116,101,120])),(2,1,(.str [99,104,97,110])),(3,1,(.str [97,116,111,109,105,99])),(4,1,(.str [102,117,110,99]))] [vS,vS,vS,vS,vS] fun l10=>ifB (flatsQ l10) ((fun (x11:AV) (h12:AHeap)=>
c 86 [(nthV A 0),x11] h12 (fun x15 h16=>
p_not x15 fun x17=>
joinL (fun j18=>p_if x17 (
c 85 [(nthV A 0)] h16 (fun x23 h24=>
j18 [] h24) kp) (j18 [] h16)) fun l19 h20=>
asNil (
p_faddr 0 (nthV A 0) fun x25=>
p_load1 x25 h20 fun x26 b27=>
p_gen (.slc 5 (.t 17) (some (.c (vi 1))) none none) [(17,x26)] h20 fun x28 h29 k30=>
asNil (
p_faddr 0 (nthV A 0) fun x31=>
p_store 1 x31 x28 h29 fun h32 b33=>
(fun (x34:AV) (h35:AHeap)=>
p_faddr 4 x6 fun x36=>
p_load1 x36 h35 fun x37 b38=>
ifB (okAll (.rd b38) h35 h35 [⟨6,.new,h32,h35⟩]) (
c 87 [(nthV A 0),(vi 1)] h35 (fun x41 h42=>
ifB (okAll .big h35 h42 [⟨1,(.rd b38),h35,h35⟩,⟨6,.new,h32,h35⟩]) (
p_fld x41 1 fun x43=>
onFill [(1,1,x37),(2,1,x43)] [(vi 0),(vi 0),vS,(vi 0),(vi 0),(vi 0),(vi 0),(.int .u64 (.ofNat 0)),.nilSlice] fun l44=>(fun (x45:AV)=>ifB (okAll .free h42 h42 [⟨6,.new,h32,h35⟩]) (
p_store 9 x34 x45 h42 fun h46 b47=>
p_faddr 1 x6 fun x48=>
p_load1 x48 h46 fun x49 b50=>
joinL (fun j51=>
p_eq x49 (.str [109,117,116,101,120]) fun x54=>
p_if x54 (p_faddr 0 x34 fun x55=>
p_store 1 x55 (vi 4) h46 fun h56 b57=>
j51 [] h56) (p_eq x49 (.str [97,116,111,109,105,99]) fun x58=>
p_if x58 (p_faddr 0 x34 fun x59=>
p_store 1 x59 (vi 6) h46 fun h60 b61=>
j51 [] h60) (p_eq x49 (.str [99,104,97,110]) fun x62=>
p_if x62 (c 88 [(nthV A 0)] h46 (fun x65 h66=>
p_faddr 0 x34 fun x67=>
p_store 1 x67 (vi 5) h66 fun h68 b69=>
p_faddr 4 x34 fun x70=>
p_store 1 x70 x65 h68 fun h71 b72=>
c 89 [(nthV A 0)] h71 (fun x75 h76=>
p_faddr 3 x34 fun x77=>
p_store 1 x77 x75 h76 fun h78 b79=>
j51 [] h78) kp) kp) (p_eq x49 (.str [102,117,110,99]) fun x80=>
p_if x80 (p_faddr 0 x34 fun x81=>
p_store 1 x81 (vi 7) h46 fun h82 b83=>
c 90 [(nthV A 0),x34] h82 (fun x86 h87=>
onFill [(0,9,(.agg [(vi 0),(vi 0),vS,(vi 0),(vi 0),(vi 0),(vi 0),(.int .u64 (.ofNat 0)),.nilSlice]))] [(vi 0),(vi 0),vS,(vi 0),(vi 0),(vi 0),(vi 0),(.int .u64 (.ofNat 0)),.nilSlice] fun l88=>ifB (flatsQ l88) ((fun (x89:AV) (h90:AHeap)=>
p_faddr 8 x34 fun x91=>
p_load1 x91 h90 fun x92 b93=>
ifB (okAll (.rd b93) h90 h90 [⟨5,.new,h87,h90⟩]) (
c 91 [(nthV A 0)] h90 (fun x97 h98=>
ifB (okAll .big h90 h98 [⟨1,(.rd b93),h90,h90⟩,⟨5,.new,h87,h90⟩]) (
p_lenL x92 fun x99=>
p_append .own 9 96 x92 x89 h98 fun x100 h101=>
p_iaddr 9 x100 x99 fun x102=>
p_store 9 x102 x97 h101 fun h103 b104=>
p_faddr 8 x34 fun x105=>
p_store 1 x105 x100 h103 fun h106 b107=>
ifB (okAll (.wr b107) h103 h106 [⟨8,(.wr b104),h101,h103⟩]) (
p_loadN 9 x34 h106 fun x108 b109=>
p_store 9 x0 x108 h106 fun h110 b111=>
p_loadN 9 x0 h110 fun x112 b113=>kr x112 h110) false) false) (fun p94 h95=>ifB (okAll .big h90 h95 [⟨1,(.rd b93),h90,h90⟩,⟨5,.new,h87,h90⟩]) (
p_lenL x92 fun x96=>
kp p94 h95) false)) false) (.slice h87.n (nat_lit 0) 1 1 true) (alQ h87 (.cells .own 9 l88))) false) kp) (p_faddr 0 x34 fun x114=>
p_store 1 x114 (vi 2) h46 fun h115 b116=>
onFill [(0,1,(.str [91]))] [vS] fun l117=>ifB (flatsQ l117) ((fun (x118:AV) (h119:AHeap)=>
c 86 [(nthV A 0),x118] h119 (fun x122 h123=>
joinL (fun j124=>p_if x122 (
c 88 [(nthV A 0)] h123 (fun x129 h130=>
p_faddr 0 x34 fun x131=>
p_store 1 x131 (vi 3) h130 fun h132 b133=>
p_faddr 4 x34 fun x134=>
p_store 1 x134 x129 h132 fun h135 b136=>
j124 [] h135) kp) (j124 [] h123)) fun l125 h126=>
c 89 [(nthV A 0)] h126 (fun x139 h140=>
p_faddr 3 x34 fun x141=>
p_store 1 x141 x139 h140 fun h142 b143=>
j51 [] h142) kp) kp) (.slice h115.n (nat_lit 0) 1 1 true) (alQ h115 (.cells .own 1 l117))) false))))) fun l52 h53=>
c 92 [(nthV A 0),(.str [59])] h53 (fun x146 h147=>
p_loadN 9 x34 h147 fun x148 b149=>
p_store 9 x0 x148 h147 fun h150 b151=>
p_loadN 9 x0 h150 fun x152 b153=>kr x152 h150) kp) false) (.agg l44)) false) (fun p39 h40=>ifB (okAll .big h35 h40 [⟨1,(.rd b38),h35,h35⟩,⟨6,.new,h32,h35⟩]) (
kp p39 h40) false)) false) (.ptr h32.n (nat_lit 0)) (alQ h32 (.cells .own (nat_lit 0) [(vi 0),(vi 0),vS,(vi 0),(vi 0),(vi 0),(vi 0),(.int .u64 (.ofNat 0)),.nilSlice]))) (nthV A 0)) (nthV A 0)) kp) (.slice h8.n (nat_lit 0) 5 5 true) (alQ h8 (.cells .own 1 l10))) false) (.ptr h5.n (nat_lit 0)) (alQ h5 (.cells .own (nat_lit 0) [(vi 0),vS,(vi 0),(.int .u64 (.ofNat 0)),(vi 0)]))) kp) (.ptr h.n (nat_lit 0)) (alQ h (.cells .own (nat_lit 0) [(vi 0),(vi 0),vS,(vi 0),(vi 0),(vi 0),(vi 0),(.int .u64 (.ofNat 0)),.nilSlice]))) false
noncomputable def h50:FBody:=fun c D k A h kr kp=>ifB (Nat.beq (lenV A) 1) (
(fun (x0:AV) (h1:AHeap)=>
c 18 [(nthV A 0)] h1 (fun x4 h5=>
p_ext x4 0 fun x6=>
p_ext x4 1 fun x7=>
(fun (x8:AV) (h9:AHeap)=>
(fun (x10:AV) (h11:AHeap)=>
p_store 9 x8 x6 h11 fun h12 b13=>
p_store 2 x10 x7 h12 fun h14 b15=>
p_faddr 0 x10 fun x16=>
p_load1 x16 h14 fun x17 b18=>
p_eqv true (.one .iface) x17 .nilIface fun x19=>
joinL (fun j20=>p_if x19 (
p_loadN 2 x10 h14 fun x23 b24=>
p_store 2 x0 x23 h14 fun h25 b26=>
p_loadN 2 x0 h25 fun x27 b28=>kr (.tuple [vS,x27]) h25) (j20 [vS] h14)) fun l21 h22=>
p_loadN 9 x8 h22 fun x29 b30=>
c 29 [x29] h22 (fun x33 h34=>
p_ext x33 0 fun x35=>
p_ext x33 1 fun x36=>
onFill [(0,1,x36)] [.nilIface,(vi 0)] fun l37=>(fun (x38:AV)=>p_store 2 x0 x38 h34 fun h39 b40=>
p_loadN 2 x0 h39 fun x41 b42=>kr (.tuple [x35,x41]) h39) (.agg l37)) kp) (.ptr h9.n (nat_lit 0)) (alQ h9 (.cells .own (nat_lit 0) [.nilIface,(vi 0)]))) (.ptr h5.n (nat_lit 0)) (alQ h5 (.cells .own (nat_lit 0) [(vi 0),(vi 0),vS,(vi 0),(vi 0),(vi 0),(vi 0),(.int .u64 (.ofNat 0)),.nilSlice]))) kp) (.ptr h.n (nat_lit 0)) (alQ h (.cells .own (nat_lit 0) [.nilIface,(vi 0)]))) false
noncomputable def h51:FBody:=fun c D k A h kr kp=>ifB (Nat.beq (lenV A) 1) (
(fun (x0:AV) (h1:AHeap)=>
(fun (x2:AV)=>p_fn x2 fun g3 a4 b5=>(fun (l6:List AV)=>
onFill [] [] fun l7=>(fun (x8:AV)=>p_fn (nthV A 0) fun g16 a17 b18=>c g16 (appL a17 (appL [x8] b18)) h1 (fun x14 h15=>
p_store 1 x0 .nilIface h15 fun h19 b20=>
D g3 l6 .ret h19 fun h21=>
p_load1 x0 h21 fun x22 b23=>kr x22 h21) (fun p9 h10=>D g3 l6 (.pan p9) h10 fun h11=>
p_load1 x0 h11 fun x12 b13=>kr x12 h11)) (.agg l7)) (appL a4 b5)) (.func (.func 93) [] [x0])) (.ptr h.n (nat_lit 0)) (alQ h (.cells .own (nat_lit 0) [.nilIface]))) false
noncomputable def h52:FBody:=fun c D k A h kr kp=>ifB (Nat.beq (lenV A) 2) (
p_box (nthV A 0) h fun x0 h1=>
p_loadN 0 x0 h1 fun x2 b3=>
p_loadN 9 (nthV A 1) h1 fun x4 b5=>
c 53 [x2,x4] h1 (fun x8 h9=>
kr undefA h9) kp) false
noncomputable def h53:FBody:=fun c D k A h kr kp=>ifB (Nat.beq (lenV A) 2) (
p_box (nthV A 0) h fun x0 h1=>
p_box (nthV A 1) h1 fun x2 h3=>
p_loadN 0 x0 h3 fun x4 b5=>
p_faddr 0 x2 fun x6=>
p_load1 x6 h3 fun x7 b8=>
p_eq x7 (vi 1) fun x9=>
c 94 [x4,x9] h3 (fun x12 h13=>
p_loadN 0 x0 h13 fun x14 b15=>
p_loadN 9 x2 h13 fun x16 b17=>
onFill [] [(vi 0),(vi 0),vS,(vi 0),(vi 0),(vi 0),(vi 0),(.int .u64 (.ofNat 0)),.nilSlice] fun l18=>(fun (x19:AV)=>c 95 [x14,x16,x19] h13 (fun x22 h23=>
p_faddr 8 x2 fun x24=>
p_load1 x24 h23 fun x25 b26=>
p_lenL x25 fun x27=>
loopB k (fun r28 l29 h30=>
p_bin .lss fiLss (nthV l29 0) x27 fun x31=>
joinL (fun j32=>p_if x31 (
j32 [] h30) (kr undefA h30)) fun l33 h34=>
joinL (fun j35=>
p_iaddr 9 x25 (nthV l29 0) fun x38=>
p_loadN 9 x38 h34 fun x39 b40=>
(fun (x41:AV) (h42:AHeap)=>
p_store 9 x41 x39 h42 fun h43 b44=>
p_loadN 0 x0 h43 fun x45 b46=>
p_loadN 9 x41 h43 fun x47 b48=>
c 96 [x45,x47] h43 (fun x51 h52=>
j35 [] h52) kp) (.ptr h34.n (nat_lit 0)) (alQ h34 (.cells .own (nat_lit 0) [(vi 0),(vi 0),vS,(vi 0),(vi 0),(vi 0),(vi 0),(.int .u64 (.ofNat 0)),.nilSlice]))) fun l36 h37=>
p_add (nthV l29 0) (vi 1) fun x53=>
r28 [x53] h37) [(vi 0)] h23) kp) (.agg l18)) kp) false
noncomputable def h56:FBody:=fun c D k A h kr kp=>ifB (Nat.beq (lenV A) 2) (
p_box (nthV A 0) h fun x0 h1=>
p_loadN 0 x0 h1 fun x2 b3=>
p_loadN 9 (nthV A 1) h1 fun x4 b5=>
c 57 [x2,x4] h1 (fun x8 h9=>
kr undefA h9) kp) false
noncomputable def h57:FBody:=fun c D k A h kr kp=>ifB (Nat.beq (lenV A) 2) (
p_box (nthV A 0) h fun x0 h1=>
p_box (nthV A 1) h1 fun x2 h3=>
onFill [] [(vi 0),(vi 0),vS,(vi 0),(vi 0),(vi 0),(vi 0),(.int .u64 (.ofNat 0)),.nilSlice] fun l4=>(fun (x5:AV)=>(fun (x6:AV) (h7:AHeap)=>
p_store 9 x6 x5 h7 fun h8 b9=>
p_faddr 0 x2 fun x10=>
p_load1 x10 h8 fun x11 b12=>
joinL (fun j13=>
p_eq x11 (vi 25) fun x16=>
p_if x16 (p_loadN 0 x0 h8 fun x17 b18=>
p_faddr 4 x2 fun x19=>
p_load1 x19 h8 fun x20 b21=>
p_bin .geq fiGeq x20 (vi 0) fun x22=>
c 94 [x17,x22] h8 (fun x25 h26=>
p_faddr 4 x2 fun x27=>
p_load1 x27 h26 fun x28 b29=>
p_faddr 4 x6 fun x30=>
p_store 1 x30 x28 h26 fun h31 b32=>
j13 [(vi 0)] h31) kp) (p_eq x11 (vi 26) fun x33=>
p_if x33 (p_faddr 7 x2 fun x34=>
p_load1 x34 h8 fun x35 b36=>
p_faddr 7 x6 fun x37=>
p_store 1 x37 x35 h8 fun h38 b39=>
j13 [(vi 0)] h38) (p_eq x11 (vi 27) fun x40=>
p_if x40 (p_loadN 0 x0 h8 fun x41 b42=>
p_faddr 4 x2 fun x43=>
p_load1 x43 h8 fun x44 b45=>
p_eq x44 (vi 0) fun x46=>
joinV (fun j47=>p_no x46 (p_faddr 4 x2 fun x50=>
j47 x50 h8) (j47 undefA h8)) fun x48 h49=>
joinV (fun j51=>p_no x46 (p_load1 x48 h49 fun x54 b55=>
j51 x54 h49) (j51 undefA h49)) fun x52 h53=>
joinV (fun j56=>p_no x46 (p_eq x52 (vi 1) fun x59=>
j56 x59 h53) (j56 undefA h53)) fun x57 h58=>
p_pick x46 vT x57 fun x60=>
c 94 [x41,x60] h58 (fun x63 h64=>
p_faddr 4 x2 fun x65=>
p_load1 x65 h64 fun x66 b67=>
p_faddr 4 x6 fun x68=>
p_store 1 x68 x66 h64 fun h69 b70=>
j13 [(vi 0)] h69) kp) (p_eq x11 (vi 28) fun x71=>
joinL (fun j72=>p_if x71 (
j72 [x71] h8) (p_eq x11 (vi 29) fun x75=>
j72 [x75] h8)) fun l73 h74=>
p_if (nthV l73 0) (p_loadN 0 x0 h74 fun x76 b77=>
p_faddr 2 x2 fun x78=>
p_load1 x78 h74 fun x79 b80=>
c 97 [x76,x79] h74 (fun x83 h84=>
p_faddr 2 x2 fun x85=>
p_load1 x85 h84 fun x86 b87=>
p_faddr 2 x6 fun x88=>
p_store 1 x88 x86 h84 fun h89 b90=>
p_faddr 0 x2 fun x91=>
p_load1 x91 h89 fun x92 b93=>
p_bin .sub fiSub x92 (vi 28) fun x94=>
j13 [x94] h89) kp) (p_eq x11 (vi 30) fun x95=>
p_if x95 (p_loadN 0 x0 h74 fun x96 b97=>
p_faddr 2 x2 fun x98=>
p_load1 x98 h74 fun x99 b100=>
p_eq x99 (.str [45]) fun x101=>
joinV (fun j102=>p_no x101 (p_faddr 2 x2 fun x105=>
j102 x105 h74) (j102 undefA h74)) fun x103 h104=>
joinV (fun j106=>p_no x101 (p_load1 x103 h104 fun x109 b110=>
j106 x109 h104) (j106 undefA h104)) fun x107 h108=>
joinV (fun j111=>p_no x101 (p_eq x107 (.str [33]) fun x114=>
j111 x114 h108) (j111 undefA h108)) fun x112 h113=>
p_pick x101 vT x112 fun x115=>
joinV (fun j116=>p_no x115 (p_faddr 2 x2 fun x119=>
j116 x119 h113) (j116 undefA h113)) fun x117 h118=>
joinV (fun j120=>p_no x115 (p_load1 x117 h118 fun x123 b124=>
j120 x123 h118) (j120 undefA h118)) fun x121 h122=>
joinV (fun j125=>p_no x115 (p_eq x121 (.str [105,110,116]) fun x128=>
j125 x128 h122) (j125 undefA h122)) fun x126 h127=>
p_pick x115 vT x126 fun x129=>
joinV (fun j130=>p_no x129 (p_faddr 2 x2 fun x133=>
j130 x133 h127) (j130 undefA h127)) fun x131 h132=>
joinV (fun j134=>p_no x129 (p_load1 x131 h132 fun x137 b138=>
j134 x137 h132) (j134 undefA h132)) fun x135 h136=>
joinV (fun j139=>p_no x129 (p_eq x135 (.str [102,108,111,97,116]) fun x142=>
j139 x142 h136) (j139 undefA h136)) fun x140 h141=>
p_pick x129 vT x140 fun x143=>
c 94 [x96,x143] h141 (fun x146 h147=>
p_faddr 2 x2 fun x148=>
p_load1 x148 h147 fun x149 b150=>
p_faddr 2 x6 fun x151=>
p_store 1 x151 x149 h147 fun h152 b153=>
j13 [(vi 1)] h152) kp) (p_eq x11 (vi 31) fun x154=>
p_if x154 (p_loadN 0 x0 h74 fun x155 b156=>
p_faddr 2 x2 fun x157=>
p_load1 x157 h74 fun x158 b159=>
ifB (okAll (.rd b159) h74 h74 [⟨0,(.rd b156),h74,h74⟩]) (
c 98 [x158] h74 (fun x162 h163=>
ifB (okAll .big h74 h163 [⟨0,(.rd b156),h74,h74⟩]) (
p_bin .gtr fiGtr x162 (vi 0) fun x164=>
c 94 [x155,x164] h163 (fun x167 h168=>
p_faddr 2 x2 fun x169=>
p_load1 x169 h168 fun x170 b171=>
p_faddr 2 x6 fun x172=>
p_store 1 x172 x170 h168 fun h173 b174=>
j13 [(vi 2)] h173) kp) false) (fun p160 h161=>ifB (okAll .big h74 h161 [⟨0,(.rd b156),h74,h74⟩]) (
kp p160 h161) false)) false) (p_loadN 0 x0 h74 fun x175 b176=>
c 94 [x175,vF] h74 (fun x179 h180=>
j13 [(vi 0)] h180) kp))))))) fun l14 h15=>
p_loadN 0 x0 h15 fun x181 b182=>
p_loadN 9 x2 h15 fun x183 b184=>
p_loadN 9 x6 h15 fun x185 b186=>
c 95 [x181,x183,x185] h15 (fun x189 h190=>
p_loadN 0 x0 h190 fun x191 b192=>
p_faddr 8 x2 fun x193=>
p_load1 x193 h190 fun x194 b195=>
p_lenL x194 fun x196=>
p_eq x196 (nthV l14 0) fun x197=>
c 94 [x191,x197] h190 (fun x200 h201=>
p_faddr 8 x2 fun x202=>
p_load1 x202 h201 fun x203 b204=>
p_lenL x203 fun x205=>
loopB k (fun r206 l207 h208=>
p_bin .lss fiLss (nthV l207 0) x205 fun x209=>
joinL (fun j210=>p_if x209 (
j210 [] h208) (kr undefA h208)) fun l211 h212=>
joinL (fun j213=>
p_iaddr 9 x203 (nthV l207 0) fun x216=>
p_loadN 9 x216 h212 fun x217 b218=>
(fun (x219:AV) (h220:AHeap)=>
p_store 9 x219 x217 h220 fun h221 b222=>
p_loadN 0 x0 h221 fun x223 b224=>
p_loadN 9 x219 h221 fun x225 b226=>
c 57 [x223,x225] h221 (fun x229 h230=>
j213 [] h230) kp) (.ptr h212.n (nat_lit 0)) (alQ h212 (.cells .own (nat_lit 0) [(vi 0),(vi 0),vS,(vi 0),(vi 0),(vi 0),(vi 0),(.int .u64 (.ofNat 0)),.nilSlice]))) fun l214 h215=>
p_add (nthV l207 0) (vi 1) fun x231=>
r206 [x231] h215) [(vi 0)] h201) kp) kp) (.ptr h3.n (nat_lit 0)) (alQ h3 (.cells .own (nat_lit 0) [(vi 0),(vi 0),vS,(vi 0),(vi 0),(vi 0),(vi 0),(.int .u64 (.ofNat 0)),.nilSlice]))) (.agg l4)) false
noncomputable def h58:FBody:=fun c D k A h kr kp=>ifB (Nat.beq (lenV A) 1) (
p_box (nthV A 0) h fun x0 h1=>
p_faddr 0 x0 fun x2=>
p_load1 x2 h1 fun x3 b4=>
joinL (fun j5=>
p_eq x3 (vi 25) fun x8=>
p_if x8 (p_faddr 4 x0 fun x9=>
p_load1 x9 h1 fun x10 b11=>
c 99 [x10] h1 (fun x14 h15=>
kr x14 h15) kp) (p_eq x3 (vi 26) fun x16=>
p_if x16 (p_faddr 7 x0 fun x17=>
p_load1 x17 h1 fun x18 b19=>
c 100 [x18,(vi 16)] h1 (fun x22 h23=>
p_lenS x22 fun x24=>
p_bin .sub fiSub (vi 16) x24 fun x25=>
c 101 [(.str [48]),x25] h23 (fun x28 h29=>
p_add (.str [35]) x28 fun x30=>
p_add x30 x22 fun x31=>
kr x31 h29) kp) kp) (p_eq x3 (vi 27) fun x32=>
p_if x32 (onFill [(0,1,(.str [102,97,108,115,101])),(1,1,(.str [116,114,117,101]))] [vS,vS] fun l33=>(fun (x34:AV)=>p_faddr 4 x0 fun x35=>
p_load1 x35 h1 fun x36 b37=>
p_idxa1 2 1 x34 x36 fun x38=>
kr x38 h1) (.agg l33)) (p_eq x3 (vi 28) fun x39=>
p_if x39 (p_faddr 2 x0 fun x40=>
p_load1 x40 h1 fun x41 b42=>
kr x41 h1) (p_eq x3 (vi 29) fun x43=>
p_if x43 (p_faddr 2 x0 fun x44=>
p_load1 x44 h1 fun x45 b46=>
p_add x45 (.str [91]) fun x47=>
p_faddr 8 x0 fun x48=>
p_load1 x48 h1 fun x49 b50=>
ifB (okAll (.rd b50) h1 h1 [⟨1,(.rd b46),h1,h1⟩]) (
p_iaddr 9 x49 (vi 0) fun x51=>
p_loadN 9 x51 h1 fun x52 b53=>
ifB (okAll (.rd b53) h1 h1 [⟨1,(.rd b46),h1,h1⟩]) (
c 58 [x52] h1 (fun x56 h57=>
ifB (okAll .big h1 h57 [⟨1,(.rd b46),h1,h1⟩]) (
p_add x47 x56 fun x58=>
p_add x58 (.str [93]) fun x59=>
kr x59 h57) false) (fun p54 h55=>ifB (okAll .big h1 h55 [⟨1,(.rd b46),h1,h1⟩]) (
kp p54 h55) false)) false) false) (p_eq x3 (vi 30) fun x60=>
p_if x60 (p_faddr 2 x0 fun x61=>
p_load1 x61 h1 fun x62 b63=>
p_lenS x62 fun x64=>
p_bin .gtr fiGtr x64 (vi 1) fun x65=>
joinL (fun j66=>p_if x65 (
p_faddr 2 x0 fun x69=>
p_load1 x69 h1 fun x70 b71=>
p_add x70 (.str [40]) fun x72=>
p_faddr 8 x0 fun x73=>
p_load1 x73 h1 fun x74 b75=>
ifB (okAll (.rd b75) h1 h1 [⟨1,(.rd b71),h1,h1⟩]) (
p_iaddr 9 x74 (vi 0) fun x76=>
p_loadN 9 x76 h1 fun x77 b78=>
ifB (okAll (.rd b78) h1 h1 [⟨1,(.rd b71),h1,h1⟩]) (
c 58 [x77] h1 (fun x81 h82=>
ifB (okAll .big h1 h82 [⟨1,(.rd b71),h1,h1⟩]) (
p_add x72 x81 fun x83=>
p_add x83 (.str [41]) fun x84=>
kr x84 h82) false) (fun p79 h80=>ifB (okAll .big h1 h80 [⟨1,(.rd b71),h1,h1⟩]) (
kp p79 h80) false)) false) false) (j66 [vS] h1)) fun l67 h68=>
p_faddr 2 x0 fun x85=>
p_load1 x85 h68 fun x86 b87=>
p_faddr 8 x0 fun x88=>
p_load1 x88 h68 fun x89 b90=>
ifB (okAll (.rd b90) h68 h68 [⟨1,(.rd b87),h68,h68⟩]) (
p_iaddr 9 x89 (vi 0) fun x91=>
p_loadN 9 x91 h68 fun x92 b93=>
ifB (okAll (.rd b93) h68 h68 [⟨1,(.rd b87),h68,h68⟩]) (
c 102 [x92,(vi 6)] h68 (fun x96 h97=>
ifB (okAll .big h68 h97 [⟨1,(.rd b87),h68,h68⟩]) (
p_add x86 x96 fun x98=>
kr x98 h97) false) (fun p94 h95=>ifB (okAll .big h68 h95 [⟨1,(.rd b87),h68,h68⟩]) (
kp p94 h95) false)) false) false) (j5 [vS] h1))))))) fun l6 h7=>
p_loadN 9 x0 h7 fun x99 b100=>
c 103 [x99] h7 (fun x103 h104=>
p_eq x103 (vi 3) fun x105=>
joinL (fun j106=>p_if x105 (
j106 [(vi 4)] h104) (j106 [x103] h104)) fun l107 h108=>
p_faddr 8 x0 fun x109=>
p_load1 x109 h108 fun x110 b111=>
p_iaddr 9 x110 (vi 0) fun x112=>
p_loadN 9 x112 h108 fun x113 b114=>
c 102 [x113,(nthV l107 0)] h108 (fun x127 h128=>
p_add x127 (.str [32]) fun x129=>
p_faddr 2 x0 fun x130=>
p_load1 x130 h128 fun x131 b132=>
ifB (okAll (.rd b132) h128 h128 [⟨5,.big,h108,h128⟩,⟨3,(.rd b114),h108,h108⟩,⟨1,(.rd b111),h108,h108⟩]) (
p_add x129 x131 fun x133=>
p_add x133 (.str [32]) fun x134=>
p_faddr 8 x0 fun x135=>
p_load1 x135 h128 fun x136 b137=>
ifB (okAll (.rd b137) h128 h128 [⟨8,(.rd b132),h128,h128⟩,⟨5,.big,h108,h128⟩,⟨3,(.rd b114),h108,h108⟩,⟨1,(.rd b111),h108,h108⟩]) (
p_iaddr 9 x136 (vi 1) fun x138=>
p_loadN 9 x138 h128 fun x139 b140=>
ifB (okAll (.rd b140) h128 h128 [⟨8,(.rd b132),h128,h128⟩,⟨5,.big,h108,h128⟩,⟨3,(.rd b114),h108,h108⟩,⟨1,(.rd b111),h108,h108⟩]) (
p_add x103 (vi 1) fun x141=>
c 102 [x139,x141] h128 (fun x144 h145=>
ifB (okAll .big h128 h145 [⟨8,(.rd b132),h128,h128⟩]) (
p_add x134 x144 fun x146=>
kr x146 h145) false) (fun p142 h143=>ifB (okAll .big h128 h143 [⟨8,(.rd b132),h128,h128⟩]) (
kp p142 h143) false)) false) false) false) (fun p115 h116=>p_faddr 2 x0 fun x117=>
p_load1 x117 h116 fun x118 b119=>
ifB (okAll (.rd b119) h116 h116 [⟨5,.big,h108,h116⟩,⟨3,(.rd b114),h108,h108⟩,⟨1,(.rd b111),h108,h108⟩]) (
p_faddr 8 x0 fun x120=>
p_load1 x120 h116 fun x121 b122=>
ifB (okAll (.rd b122) h116 h116 [⟨8,(.rd b119),h116,h116⟩,⟨5,.big,h108,h116⟩,⟨3,(.rd b114),h108,h108⟩,⟨1,(.rd b111),h108,h108⟩]) (
p_iaddr 9 x121 (vi 1) fun x123=>
p_loadN 9 x123 h116 fun x124 b125=>
ifB (okAll (.rd b125) h116 h116 [⟨8,(.rd b119),h116,h116⟩,⟨5,.big,h108,h116⟩,⟨3,(.rd b114),h108,h108⟩,⟨1,(.rd b111),h108,h108⟩]) (
p_add x103 (vi 1) fun x126=>
kp p115 h116) false) false) false)) kp) false
noncomputable def h59:FBody:=fun c D k A h kr kp=>ifB (Nat.beq (lenV A) 1) (
(fun (x0:AV) (h1:AHeap)=>
(fun (x2:AV)=>onFill [(0,1,(.str [124,124]))] [vS] fun l3=>ifB (flatsQ l3) ((fun (x4:AV) (h5:AHeap)=>
c 104 [(nthV A 0),x2,vT,x4] h5 (fun x8 h9=>
p_store 9 x0 x8 h9 fun h10 b11=>
p_loadN 9 x0 h10 fun x12 b13=>kr x12 h10) kp) (.slice h1.n (nat_lit 0) 1 1 true) (alQ h1 (.cells .own 1 l3))) false) (.func (.func 105) [(nthV A 0)] [])) (.ptr h.n (nat_lit 0)) (alQ h (.cells .own (nat_lit 0) [(vi 0),(vi 0),vS,(vi 0),(vi 0),(vi 0),(vi 0),(.int .u64 (.ofNat 0)),.nilSlice]))) false
noncomputable def h64:FBody:=fun c D k A h kr kp=>ifB (Nat.beq (lenV A) 2) (
p_box (nthV A 1) h fun x0 h1=>
p_faddr 4 x0 fun x2=>
p_load1 x2 h1 fun x3 b4=>
c 99 [x3] h1 (fun x7 h8=>
p_add (.str [91]) x7 fun x9=>
p_add x9 (.str [93,32]) fun x10=>
p_faddr 0 x0 fun x11=>
p_load1 x11 h8 fun x12 b13=>
p_eq x12 (vi 2) fun x14=>
p_if x14 (p_faddr 2 x0 fun x15=>
p_load1 x15 h8 fun x16 b17=>
p_faddr 3 x0 fun x18=>
p_load1 x18 h8 fun x19 b20=>
ifB (okAll (.rd b20) h8 h8 [⟨2,(.rd b17),h8,h8⟩]) (
c 108 [x19] h8 (fun x23 h24=>
ifB (okAll .big h8 h24 [⟨2,(.rd b17),h8,h8⟩]) (
onFill [(0,1,(.str [118,97,114,32])),(1,1,x16),(2,1,(.str [32])),(3,1,x23),(4,1,(.str [59]))] [vS,vS,vS,vS,vS] fun l25=>ifB (flatsQ l25) ((fun (x26:AV) (h27:AHeap)=>
c 107 [(nthV A 0),x26] h27 (fun x30 h31=>
kr undefA h31) kp) (.slice h24.n (nat_lit 0) 5 5 true) (alQ h24 (.cells .own 1 l25))) false) false) (fun p21 h22=>ifB (okAll .big h8 h22 [⟨2,(.rd b17),h8,h8⟩]) (
kp p21 h22) false)) false) (p_eq x12 (vi 3) fun x32=>
p_if x32 (p_faddr 2 x0 fun x33=>
p_load1 x33 h8 fun x34 b35=>
p_faddr 3 x0 fun x36=>
p_load1 x36 h8 fun x37 b38=>
ifB (okAll (.rd b38) h8 h8 [⟨2,(.rd b35),h8,h8⟩]) (
c 108 [x37] h8 (fun x41 h42=>
ifB (okAll .big h8 h42 [⟨2,(.rd b35),h8,h8⟩]) (
onFill [(0,1,(.str [118,97,114,32])),(1,1,x34),(2,1,x10),(3,1,x41),(4,1,(.str [59]))] [vS,vS,vS,vS,vS] fun l43=>ifB (flatsQ l43) ((fun (x44:AV) (h45:AHeap)=>
c 107 [(nthV A 0),x44] h45 (fun x48 h49=>
kr undefA h49) kp) (.slice h42.n (nat_lit 0) 5 5 true) (alQ h42 (.cells .own 1 l43))) false) false) (fun p39 h40=>ifB (okAll .big h8 h40 [⟨2,(.rd b35),h8,h8⟩]) (
kp p39 h40) false)) false) (p_eq x12 (vi 5) fun x50=>
p_if x50 (p_faddr 2 x0 fun x51=>
p_load1 x51 h8 fun x52 b53=>
p_faddr 3 x0 fun x54=>
p_load1 x54 h8 fun x55 b56=>
ifB (okAll (.rd b56) h8 h8 [⟨2,(.rd b53),h8,h8⟩]) (
c 108 [x55] h8 (fun x59 h60=>
ifB (okAll .big h8 h60 [⟨2,(.rd b53),h8,h8⟩]) (
onFill [(0,1,(.str [99,104,97,110,32])),(1,1,x52),(2,1,x10),(3,1,x59),(4,1,(.str [59]))] [vS,vS,vS,vS,vS] fun l61=>ifB (flatsQ l61) ((fun (x62:AV) (h63:AHeap)=>
c 107 [(nthV A 0),x62] h63 (fun x66 h67=>
kr undefA h67) kp) (.slice h60.n (nat_lit 0) 5 5 true) (alQ h60 (.cells .own 1 l61))) false) false) (fun p57 h58=>ifB (okAll .big h8 h58 [⟨2,(.rd b53),h8,h8⟩]) (
kp p57 h58) false)) false) (p_eq x12 (vi 4) fun x68=>
p_if x68 (p_faddr 2 x0 fun x69=>
p_load1 x69 h8 fun x70 b71=>
onFill [(0,1,(.str [109,117,116,101,120,32])),(1,1,x70),(2,1,(.str [59]))] [vS,vS,vS] fun l72=>ifB (flatsQ l72) ((fun (x73:AV) (h74:AHeap)=>
c 107 [(nthV A 0),x73] h74 (fun x77 h78=>
kr undefA h78) kp) (.slice h8.n (nat_lit 0) 3 3 true) (alQ h8 (.cells .own 1 l72))) false) (p_eq x12 (vi 6) fun x79=>
p_if x79 (p_faddr 2 x0 fun x80=>
p_load1 x80 h8 fun x81 b82=>
onFill [(0,1,(.str [97,116,111,109,105,99,32])),(1,1,x81),(2,1,(.str [59]))] [vS,vS,vS] fun l83=>ifB (flatsQ l83) ((fun (x84:AV) (h85:AHeap)=>
c 107 [(nthV A 0),x84] h85 (fun x88 h89=>
kr undefA h89) kp) (.slice h8.n (nat_lit 0) 3 3 true) (alQ h8 (.cells .own 1 l83))) false) (p_faddr 8 x0 fun x90=>
p_load1 x90 h8 fun x91 b92=>
p_faddr 4 x0 fun x93=>
p_load1 x93 h8 fun x94 b95=>
p_gen (.slc 9 (.t 16) none (some (.t 18)) none) [(16,x91),(18,x94)] h8 fun x96 h97 k98=>
p_lenL x96 fun x99=>
joinL (fun j100=>
loopB k (fun r103 l104 h105=>
p_bin .lss fiLss (nthV l104 1) x99 fun x106=>
joinL (fun j107=>p_if x106 (
j107 [] h105) (j100 [(nthV l104 0)] h105)) fun l108 h109=>
joinL (fun j110=>
p_iaddr 9 x96 (nthV l104 1) fun x113=>
p_loadN 9 x113 h109 fun x114 b115=>
(fun (x116:AV) (h117:AHeap)=>
p_store 9 x116 x114 h117 fun h118 b119=>
p_faddr 2 x116 fun x120=>
p_load1 x120 h118 fun x121 b122=>
p_add x121 (.str [32]) fun x123=>
p_faddr 3 x116 fun x124=>
p_load1 x124 h118 fun x125 b126=>
ifB (okAll (.rd b126) h118 h118 [⟨2,(.rd b122),h118,h118⟩]) (
c 108 [x125] h118 (fun x129 h130=>
ifB (okAll .big h118 h130 [⟨2,(.rd b122),h118,h118⟩]) (
p_add x123 x129 fun x131=>
onFill [(0,1,x131)] [vS] fun l132=>ifB (flatsQ l132) ((fun (x133:AV) (h134:AHeap)=>
p_append .own 1 16 (nthV l104 0) x133 h134 fun x135 h136=>
j110 [x135] h136) (.slice h130.n (nat_lit 0) 1 1 true) (alQ h130 (.cells .own 1 l132))) false) false) (fun p127 h128=>ifB (okAll .big h118 h128 [⟨2,(.rd b122),h118,h118⟩]) (
kp p127 h128) false)) false) (.ptr h109.n (nat_lit 0)) (alQ h109 (.cells .own (nat_lit 0) [(vi 0),(vi 0),vS,(vi 0),(vi 0),(vi 0),(vi 0),(.int .u64 (.ofNat 0)),.nilSlice]))) fun l111 h112=>
p_add (nthV l104 1) (vi 1) fun x137=>
r103 [(nthV l111 0),x137] h112) [.nilSlice,(vi 0)] h97) fun l101 h102=>
p_faddr 2 x0 fun x138=>
p_load1 x138 h102 fun x139 b140=>
c 109 [(nthV l101 0),(.str [44,32])] h102 (fun x143 h144=>
ifB (okAll .big h102 h144 [⟨2,(.rd b140),h102,h102⟩]) (
onFill [(0,1,(.str [102,117,110,99,32])),(1,1,x139),(2,1,(.str [40])),(3,1,x143),(4,1,(.str [41,32,123]))] [vS,vS,vS,vS,vS] fun l145=>ifB (flatsQ l145) ((fun (x146:AV) (h147:AHeap)=>
c 107 [(nthV A 0),x146] h147 (fun x150 h151=>
p_faddr 8 x0 fun x152=>
p_load1 x152 h151 fun x153 b154=>
p_faddr 4 x0 fun x155=>
p_load1 x155 h151 fun x156 b157=>
p_iaddr 9 x153 x156 fun x158=>
p_loadN 9 x158 h151 fun x159 b160=>
c 110 [(nthV A 0),x159] h151 (fun x163 h164=>
onFill [(0,1,(.str [125]))] [vS] fun l165=>ifB (flatsQ l165) ((fun (x166:AV) (h167:AHeap)=>
c 107 [(nthV A 0),x166] h167 (fun x170 h171=>
kr undefA h171) kp) (.slice h164.n (nat_lit 0) 1 1 true) (alQ h164 (.cells .own 1 l165))) false) kp) kp) (.slice h144.n (nat_lit 0) 5 5 true) (alQ h144 (.cells .own 1 l145))) false) false) (fun p141 h142=>ifB (okAll .big h102 h142 [⟨2,(.rd b140),h102,h102⟩]) (
kp p141 h142) false))))))) kp) false
noncomputable def d70:FDBody:=fun c k A lv h K=>ifB (Nat.beq (lenV A) 2) (
p_eqv true (.one .iface) (lvQ lv) .nilIface fun x0=>
p_if x0 (p_gen (.tassert 117 (.agg [.nilIface,(vi 0)]) (.t 9)) [(9,(lvQ lv))] h fun x1 h2 k3=>
p_ext x1 0 fun x4=>
p_ext x1 1 fun x5=>
(fun (x6:AV) (h7:AHeap)=>
p_store 2 x6 x4 h7 fun h8 b9=>
p_not x5 fun x10=>
joinL (fun j11=>p_if x10 (
asIf (fun t14 x15=>false) (lvQ lv)) (j11 [] h8)) fun l12 h13=>
p_faddr 0 x6 fun x16=>
p_loadN 2 x16 h13 fun x17 b18=>
p_store 1 (nthV A 0) .nilSlice h13 fun h19 b20=>
ifB (okAll (.wr b20) h13 h19 [⟨1,(.rd b18),h13,h13⟩]) (
p_store 2 (nthV A 1) x17 h19 fun h21 b22=>
K h21) false) (.ptr h2.n (nat_lit 0)) (alQ h2 (.cells .own (nat_lit 0) [.nilIface,(vi 0)]))) (K h)) false
noncomputable def h71:FBody:=fun c D k A h kr kp=>ifB (Nat.beq (lenV A) 1) (
loopB k (fun r0 l1 h2=>
asNil (
p_faddr 1 (nthV A 0) fun x3=>
p_load1 x3 h2 fun x4 b5=>
c 112 [(nthV A 0),(.func (.func 113) [] [])] h2 (fun x8 h9=>
asNil (
p_faddr 0 (nthV A 0) fun x10=>
p_load1 x10 h9 fun x11 b12=>
asNil (
p_faddr 1 (nthV A 0) fun x13=>
p_load1 x13 h9 fun x14 b15=>
ifB (okAll (.rd b15) h9 h9 [⟨3,(.rd b12),h9,h9⟩]) (
asStr (fun s16=>onBnd x14 (lenB s16) fun n17=>(fun (x18:AV)=>c 114 [x18,(.str [47,47])] h9 (fun x21 h22=>
joinL (fun j23=>p_if x21 (
c 112 [(nthV A 0),(.func (.func 115) [] [])] h22 (fun x28 h29=>
j23 [] h29) kp) (j23 [] h22)) fun l24 h25=>
asNil (
p_faddr 1 (nthV A 0) fun x30=>
p_load1 x30 h25 fun x31 b32=>
p_eq x31 x4 fun x33=>
p_if x33 (kr undefA h25) (r0 [] h25)) (nthV A 0)) kp) (.str (dropC s16 n17))) x11) false) (nthV A 0)) (nthV A 0)) kp) (nthV A 0)) [] h) false
noncomputable def h72:FBody:=fun c D k A h kr kp=>ifB (Nat.beq (lenV A) 3) (
onFill [(0,1,(nthV A 1)),(1,1,(nthV A 2))] [.nilIface,(vi 0)] fun l0=>(fun (x1:AV)=>onFill [(0,2,x1)] [.nilIface,(vi 0)] fun l2=>(fun (x3:AV)=>(fun (x4:AV)=>asIf (fun t5 x6=>kp (.iface t5 x6) h) x4) (.iface 117 x3)) (.agg l2)) (.agg l0)) false
noncomputable def h73:FBody:=fun c D k A h kr kp=>ifB (Nat.beq (lenV A) 1) (
(fun (x0:AV) (h1:AHeap)=>
joinL (fun j2=>
c 116 [(nthV A 0),(.func (.func 117) [] [])] h1 (fun x7 h8=>
p_if x7 (c 118 [(nthV A 0)] h8 (fun x11 h12=>
p_store 5 x0 x11 h12 fun h13 b14=>
p_loadN 5 x0 h13 fun x15 b16=>kr x15 h13) kp) (c 116 [(nthV A 0),(.func (.func 119) [] [])] h8 (fun x19 h20=>
p_if x19 (c 120 [(nthV A 0)] h20 (fun x23 h24=>
p_store 5 x0 x23 h24 fun h25 b26=>
p_loadN 5 x0 h25 fun x27 b28=>kr x27 h25) kp) (asNil (
p_faddr 0 (nthV A 0) fun x29=>
p_load1 x29 h20 fun x30 b31=>
asNil (
p_faddr 1 (nthV A 0) fun x32=>
p_load1 x32 h20 fun x33 b34=>
ifB (okAll (.rd b34) h20 h20 [⟨3,(.rd b31),h20,h20⟩]) (
p_idxs x30 x33 fun x35=>
p_eq x35 (.int .u8 (.ofNat 35)) fun x36=>
p_if x36 (c 121 [(nthV A 0)] h20 (fun x39 h40=>
p_store 5 x0 x39 h40 fun h41 b42=>
p_loadN 5 x0 h41 fun x43 b44=>kr x43 h41) kp) (j2 [] h20)) false) (nthV A 0)) (nthV A 0))) kp)) kp) fun l3 h4=>
c 122 [(nthV A 0)] h4 (fun x47 h48=>
p_store 5 x0 x47 h48 fun h49 b50=>
p_loadN 5 x0 h49 fun x51 b52=>kr x51 h49) kp) (.ptr h.n (nat_lit 0)) (alQ h (.cells .own (nat_lit 0) [(vi 0),vS,(vi 0),(.int .u64 (.ofNat 0)),(vi 0)]))) false
noncomputable def d84:FDBody:=fun c k A lv h K=>ifB (Nat.beq (lenV A) 2) (
p_eqv true (.one .iface) (lvQ lv) .nilIface fun x0=>
p_if x0 (p_gen (.tassert 137 (.agg [.nilIface,(vi 0)]) (.t 9)) [(9,(lvQ lv))] h fun x1 h2 k3=>
p_ext x1 0 fun x4=>
p_ext x1 1 fun x5=>
(fun (x6:AV) (h7:AHeap)=>
p_store 2 x6 x4 h7 fun h8 b9=>
p_not x5 fun x10=>
joinL (fun j11=>p_if x10 (
asIf (fun t14 x15=>false) (lvQ lv)) (j11 [] h8)) fun l12 h13=>
onFill [] [(vi 0),(vi 0),vS,(vi 0),(vi 0),(vi 0),(vi 0),(.int .u64 (.ofNat 0)),.nilSlice] fun l16=>(fun (x17:AV)=>p_faddr 0 x6 fun x18=>
p_loadN 2 x18 h13 fun x19 b20=>
ifB (okAll (.rd b20) h13 h13 [⟨0,.free,h13,h13⟩]) (
p_store 9 (nthV A 0) x17 h13 fun h21 b22=>
ifB (okAll (.wr b22) h13 h21 [⟨2,(.rd b20),h13,h13⟩]) (
p_store 2 (nthV A 1) x19 h21 fun h23 b24=>
K h23) false) false) (.agg l16)) (.ptr h2.n (nat_lit 0)) (alQ h2 (.cells .own (nat_lit 0) [.nilIface,(vi 0)]))) (K h)) false
noncomputable def h85:FBody:=fun c D k A h kr kp=>ifB (Nat.beq (lenV A) 1) (
p_load1 (.ptr 3 0) h fun x0 b1=>
c 48 [(nthV A 0)] h (fun x4 h5=>
ifB (okAll .big h h5 [⟨0,(.rd b1),h,h⟩]) (
p_fld x4 4 fun x6=>
onFill [(0,1,x0),(1,1,x6)] [.nilIface,(vi 0)] fun l7=>(fun (x8:AV)=>onFill [(0,2,x8)] [.nilIface,(vi 0)] fun l9=>(fun (x10:AV)=>(fun (x11:AV)=>asIf (fun t12 x13=>kp (.iface t12 x13) h5) x11) (.iface 137 x10)) (.agg l9)) (.agg l7)) false) (fun p2 h3=>ifB (okAll .big h h3 [⟨0,(.rd b1),h,h⟩]) (
kp p2 h3) false)) false
noncomputable def h86:FBody:=fun c D k A h kr kp=>ifB (Nat.beq (lenV A) 2) (
c 48 [(nthV A 0)] h (fun x2 h3=>
(fun (x4:AV) (h5:AHeap)=>
p_store 5 x4 x2 h5 fun h6 b7=>
p_faddr 0 x4 fun x8=>
p_load1 x8 h6 fun x9 b10=>
p_eq x9 (vi 2) fun x11=>
joinV (fun j12=>p_no x11 (p_faddr 0 x4 fun x15=>
j12 x15 h6) (j12 undefA h6)) fun x13 h14=>
joinV (fun j16=>p_no x11 (p_load1 x13 h14 fun x19 b20=>
j16 x19 h14) (j16 undefA h14)) fun x17 h18=>
joinV (fun j21=>p_no x11 (p_eq x17 (vi 5) fun x24=>
j21 x24 h18) (j21 undefA h18)) fun x22 h23=>
p_pick x11 vT x22 fun x25=>
joinV (fun j26=>p_yes x25 (j26 (nthV A 1) h23) (j26 undefA h23)) fun x27 h28=>
joinV (fun j29=>p_yes x25 (p_faddr 1 x4 fun x32=>
j29 x32 h28) (j29 undefA h28)) fun x30 h31=>
joinV (fun j33=>p_yes x25 (p_load1 x30 h31 fun x36 b37=>
j33 x36 h31) (j33 undefA h31)) fun x34 h35=>
joinV (fun j38=>p_yes x25 (c 133 [x27,x34] h35 (fun x43 h44=>
j38 x43 h44) kp) (j38 undefA h35)) fun x39 h40=>
p_pick x25 x39 vF fun x45=>
kr x45 h40) (.ptr h3.n (nat_lit 0)) (alQ h3 (.cells .own (nat_lit 0) [(vi 0),vS,(vi 0),(.int .u64 (.ofNat 0)),(vi 0)]))) kp) false
noncomputable def h87:FBody:=fun c D k A h kr kp=>ifB (Nat.beq (lenV A) 2) (
(fun (x0:AV) (h1:AHeap)=>
c 48 [(nthV A 0)] h1 (fun x4 h5=>
(fun (x6:AV) (h7:AHeap)=>
p_store 5 x6 x4 h7 fun h8 b9=>
p_faddr 0 x6 fun x10=>
p_load1 x10 h8 fun x11 b12=>
p_bin .neq fiNeq x11 (nthV A 1) fun x13=>
joinL (fun j14=>p_if x13 (
c 85 [(nthV A 0)] h8 (fun x19 h20=>
j14 [] h20) kp) (j14 [] h8)) fun l15 h16=>
asNil (
p_faddr 0 (nthV A 0) fun x21=>
p_load1 x21 h16 fun x22 b23=>
p_gen (.slc 5 (.t 18) (some (.c (vi 1))) none none) [(18,x22)] h16 fun x24 h25 k26=>
asNil (
p_faddr 0 (nthV A 0) fun x27=>
p_store 1 x27 x24 h25 fun h28 b29=>
p_loadN 5 x6 h28 fun x30 b31=>
p_store 5 x0 x30 h28 fun h32 b33=>
p_loadN 5 x0 h32 fun x34 b35=>kr x34 h32) (nthV A 0)) (nthV A 0)) (.ptr h5.n (nat_lit 0)) (alQ h5 (.cells .own (nat_lit 0) [(vi 0),vS,(vi 0),(.int .u64 (.ofNat 0)),(vi 0)]))) kp) (.ptr h.n (nat_lit 0)) (alQ h (.cells .own (nat_lit 0) [(vi 0),vS,(vi 0),(.int .u64 (.ofNat 0)),(vi 0)]))) false
noncomputable def h88:FBody:=fun c D k A h kr kp=>ifB (Nat.beq (lenV A) 1) (
c 92 [(nthV A 0),(.str [91])] h (fun x2 h3=>
c 87 [(nthV A 0),(vi 3)] h3 (fun x6 h7=>
p_fld x6 2 fun x8=>
c 92 [(nthV A 0),(.str [93])] h7 (fun x11 h12=>
kr x8 h12) kp) kp) kp) false
noncomputable def h89:FBody:=fun c D k A h kr kp=>ifB (Nat.beq (lenV A) 1) (
onFill [(0,1,(.str [105,110,116])),(1,1,(.str [102,108,111,97,116])),(2,1,(.str [98,111,111,108]))] [vS,vS,vS] fun l0=>ifB (flatsQ l0) ((fun (x1:AV) (h2:AHeap)=>
c 48 [(nthV A 0)] h2 (fun x5 h6=>
p_fld x5 1 fun x7=>
c 134 [x1,x7] h6 (fun x10 h11=>
c 48 [(nthV A 0)] h11 (fun x14 h15=>
p_fld x14 0 fun x16=>
p_bin .neq fiNeq x16 (vi 2) fun x17=>
joinV (fun j18=>p_no x17 (j18 x10 h15) (j18 undefA h15)) fun x19 h20=>
joinV (fun j21=>p_no x17 (p_bin .lss fiLss x19 (vi 0) fun x24=>
j21 x24 h20) (j21 undefA h20)) fun x22 h23=>
p_pick x17 vT x22 fun x25=>
joinL (fun j26=>p_if x25 (
c 85 [(nthV A 0)] h23 (fun x31 h32=>
j26 [] h32) kp) (j26 [] h23)) fun l27 h28=>
asNil (
p_faddr 0 (nthV A 0) fun x33=>
p_load1 x33 h28 fun x34 b35=>
p_gen (.slc 5 (.t 23) (some (.c (vi 1))) none none) [(23,x34)] h28 fun x36 h37 k38=>
asNil (
p_faddr 0 (nthV A 0) fun x39=>
p_store 1 x39 x36 h37 fun h40 b41=>
p_add (vi 1) x10 fun x42=>
kr x42 h40) (nthV A 0)) (nthV A 0)) kp) kp) kp) (.slice h.n (nat_lit 0) 3 3 true) (alQ h (.cells .own 1 l0))) false) false
noncomputable def h90:FBody:=fun c D k A h kr kp=>ifB (Nat.beq (lenV A) 2) (
c 92 [(nthV A 0),(.str [40])] h (fun x2 h3=>
onFill [(0,1,(.str [41]))] [vS] fun l4=>ifB (flatsQ l4) ((fun (x5:AV) (h6:AHeap)=>
c 86 [(nthV A 0),x5] h6 (fun x9 h10=>
p_not x9 fun x11=>
joinL (fun j12=>
loopB k (fun r15 l16 h17=>
joinL (fun j18=>p_if (nthV l16 0) (
j18 [] h17) (j12 [] h17)) fun l19 h20=>
joinL (fun j21=>
c 87 [(nthV A 0),(vi 1)] h20 (fun x26 h27=>
(fun (x28:AV) (h29:AHeap)=>
p_store 5 x28 x26 h29 fun h30 b31=>
onFill [(0,9,(.agg [(vi 0),(vi 0),vS,(vi 0),(vi 0),(vi 0),(vi 0),(.int .u64 (.ofNat 0)),.nilSlice]))] [(vi 0),(vi 0),vS,(vi 0),(vi 0),(vi 0),(vi 0),(.int .u64 (.ofNat 0)),.nilSlice] fun l32=>ifB (flatsQ l32) ((fun (x33:AV) (h34:AHeap)=>
asNil (
p_faddr 8 (nthV A 1) fun x35=>
p_load1 x35 h34 fun x36 b37=>
ifB (okAll (.rd b37) h34 h34 [⟨12,.new,h30,h34⟩]) (
p_faddr 4 x28 fun x38=>
p_load1 x38 h34 fun x39 b40=>
ifB (okAll (.rd b40) h34 h34 [⟨3,(.rd b37),h34,h34⟩,⟨12,.new,h30,h34⟩]) (
p_faddr 1 x28 fun x41=>
p_load1 x41 h34 fun x42 b43=>
ifB (okAll (.rd b43) h34 h34 [⟨5,(.rd b40),h34,h34⟩,⟨3,(.rd b37),h34,h34⟩,⟨12,.new,h30,h34⟩]) (
c 89 [(nthV A 0)] h34 (fun x47 h48=>
ifB (okAll .big h34 h48 [⟨7,(.rd b43),h34,h34⟩,⟨5,(.rd b40),h34,h34⟩,⟨3,(.rd b37),h34,h34⟩,⟨12,.new,h30,h34⟩]) (
onFill [(0,1,(vi 8)),(1,1,x39),(2,1,x42),(3,1,x47)] [(vi 0),(vi 0),vS,(vi 0),(vi 0),(vi 0),(vi 0),(.int .u64 (.ofNat 0)),.nilSlice] fun l49=>(fun (x50:AV)=>ifB (okAll .free h48 h48 [⟨3,(.rd b37),h34,h34⟩,⟨12,.new,h30,h34⟩]) (
p_lenL x36 fun x51=>
p_append .own 9 96 x36 x33 h48 fun x52 h53=>
p_iaddr 9 x52 x51 fun x54=>
p_store 9 x54 x50 h53 fun h55 b56=>
asNil (
p_faddr 8 (nthV A 1) fun x57=>
p_store 1 x57 x52 h55 fun h58 b59=>
ifB (okAll (.wr b59) h55 h58 [⟨15,(.wr b56),h53,h55⟩]) (
asNil (
p_faddr 4 (nthV A 1) fun x60=>
p_load1 x60 h58 fun x61 b62=>
p_add x61 (vi 1) fun x63=>
asNil (
p_faddr 4 (nthV A 1) fun x64=>
p_store 1 x64 x63 h58 fun h65 b66=>
j21 [] h65) (nthV A 1)) (nthV A 1)) false) (nthV A 1)) false) (.agg l49)) false) (fun p44 h45=>ifB (okAll .big h34 h45 [⟨7,(.rd b43),h34,h34⟩,⟨5,(.rd b40),h34,h34⟩,⟨3,(.rd b37),h34,h34⟩,⟨12,.new,h30,h34⟩]) (
p_lenL x36 fun x46=>
kp p44 h45) false)) false) false) false) (nthV A 1)) (.slice h30.n (nat_lit 0) 1 1 true) (alQ h30 (.cells .own 9 l32))) false) (.ptr h27.n (nat_lit 0)) (alQ h27 (.cells .own (nat_lit 0) [(vi 0),vS,(vi 0),(.int .u64 (.ofNat 0)),(vi 0)]))) kp) fun l22 h23=>
c 135 [(nthV A 0),(.str [44])] h23 (fun x69 h70=>
r15 [x69] h70) kp) [x11] h10) fun l13 h14=>
c 92 [(nthV A 0),(.str [41])] h14 (fun x73 h74=>
kr undefA h74) kp) kp) (.slice h3.n (nat_lit 0) 1 1 true) (alQ h3 (.cells .own 1 l4))) false) kp) false
noncomputable def h91:FBody:=fun c D k A h kr kp=>ifB (Nat.beq (lenV A) 1) (
(fun (x0:AV) (h1:AHeap)=>
c 136 [(nthV A 0),(.str [123])] h1 (fun x4 h5=>
p_fld x4 4 fun x6=>
onFill [(0,1,(vi 9)),(1,1,x6)] [(vi 0),(vi 0),vS,(vi 0),(vi 0),(vi 0),(vi 0),(.int .u64 (.ofNat 0)),.nilSlice] fun l7=>(fun (x8:AV)=>(fun (x9:AV) (h10:AHeap)=>
p_store 9 x9 x8 h10 fun h11 b12=>
joinL (fun j13=>
loopB k (fun r16 l17 h18=>
onFill [(0,1,(.str [125]))] [vS] fun l19=>ifB (flatsQ l19) ((fun (x20:AV) (h21:AHeap)=>
c 86 [(nthV A 0),x20] h21 (fun x24 h25=>
p_not x24 fun x26=>
joinL (fun j27=>p_if x26 (
j27 [] h25) (j13 [] h25)) fun l28 h29=>
p_faddr 8 x9 fun x30=>
p_load1 x30 h29 fun x31 b32=>
c 137 [(nthV A 0)] h29 (fun x35 h36=>
ifB (okAll .big h29 h36 [⟨1,(.rd b32),h29,h29⟩]) (
onFill [(0,9,x35)] [(vi 0),(vi 0),vS,(vi 0),(vi 0),(vi 0),(vi 0),(.int .u64 (.ofNat 0)),.nilSlice] fun l37=>ifB (flatsQ l37) ((fun (x38:AV) (h39:AHeap)=>
ifB (okAll .new h36 h39 [⟨1,(.rd b32),h29,h29⟩]) (
p_append .own 9 96 x31 x38 h39 fun x40 h41=>
p_faddr 8 x9 fun x42=>
p_store 1 x42 x40 h41 fun h43 b44=>
r16 [] h43) false) (.slice h36.n (nat_lit 0) 1 1 true) (alQ h36 (.cells .own 9 l37))) false) false) (fun p33 h34=>ifB (okAll .big h29 h34 [⟨1,(.rd b32),h29,h29⟩]) (
kp p33 h34) false)) kp) (.slice h18.n (nat_lit 0) 1 1 true) (alQ h18 (.cells .own 1 l19))) false) [] h11) fun l14 h15=>
c 138 [(nthV A 0),(.str [125])] h15 (fun x47 h48=>
p_loadN 9 x9 h48 fun x49 b50=>
p_store 9 x0 x49 h48 fun h51 b52=>
p_loadN 9 x0 h51 fun x53 b54=>kr x53 h51) kp) (.ptr h5.n (nat_lit 0)) (alQ h5 (.cells .own (nat_lit 0) [(vi 0),(vi 0),vS,(vi 0),(vi 0),(vi 0),(vi 0),(.int .u64 (.ofNat 0)),.nilSlice]))) (.agg l7)) kp) (.ptr h.n (nat_lit 0)) (alQ h (.cells .own (nat_lit 0) [(vi 0),(vi 0),vS,(vi 0),(vi 0),(vi 0),(vi 0),(.int .u64 (.ofNat 0)),.nilSlice]))) false
noncomputable def h92:FBody:=fun c D k A h kr kp=>ifB (Nat.beq (lenV A) 2) (
(fun (x0:AV) (h1:AHeap)=>
onFill [(0,1,(nthV A 1))] [vS] fun l2=>ifB (flatsQ l2) ((fun (x3:AV) (h4:AHeap)=>
c 86 [(nthV A 0),x3] h4 (fun x7 h8=>
p_not x7 fun x9=>
joinL (fun j10=>p_if x9 (
c 85 [(nthV A 0)] h8 (fun x15 h16=>
j10 [] h16) kp) (j10 [] h8)) fun l11 h12=>
c 48 [(nthV A 0)] h12 (fun x19 h20=>
(fun (x21:AV) (h22:AHeap)=>
p_store 5 x21 x19 h22 fun h23 b24=>
asNil (
p_faddr 0 (nthV A 0) fun x25=>
p_load1 x25 h23 fun x26 b27=>
p_gen (.slc 5 (.t 19) (some (.c (vi 1))) none none) [(19,x26)] h23 fun x28 h29 k30=>
asNil (
p_faddr 0 (nthV A 0) fun x31=>
p_store 1 x31 x28 h29 fun h32 b33=>
p_loadN 5 x21 h32 fun x34 b35=>
p_store 5 x0 x34 h32 fun h36 b37=>
p_loadN 5 x0 h36 fun x38 b39=>kr x38 h36) (nthV A 0)) (nthV A 0)) (.ptr h20.n (nat_lit 0)) (alQ h20 (.cells .own (nat_lit 0) [(vi 0),vS,(vi 0),(.int .u64 (.ofNat 0)),(vi 0)]))) kp) kp) (.slice h1.n (nat_lit 0) 1 1 true) (alQ h1 (.cells .own 1 l2))) false) (.ptr h.n (nat_lit 0)) (alQ h (.cells .own (nat_lit 0) [(vi 0),vS,(vi 0),(.int .u64 (.ofNat 0)),(vi 0)]))) false
noncomputable def d93:FDBody:=fun c k A lv h K=>ifB (Nat.beq (lenV A) 1) (
p_eqv true (.one .iface) (lvQ lv) .nilIface fun x0=>
p_if x0 (p_gen (.tassert 145 (.agg []) (.t 8)) [(8,(lvQ lv))] h fun x1 h2 k3=>
p_ext x1 0 fun x4=>
p_ext x1 1 fun x5=>
(fun (x6:AV) (h7:AHeap)=>
p_store 0 x6 x4 h7 fun h8 b9=>
p_not x5 fun x10=>
joinL (fun j11=>p_if x10 (
asIf (fun t14 x15=>false) (lvQ lv)) (j11 [] h8)) fun l12 h13=>
p_load1 (.ptr 0 0) h13 fun x16 b17=>
p_store 1 (nthV A 0) x16 h13 fun h18 b19=>
K h18) (.ptr h2.n (nat_lit 0)) (alQ h2 (.cells .own (nat_lit 0) []))) (K h)) false
noncomputable def h94:FBody:=fun c D k A h kr kp=>ifB (Nat.beq (lenV A) 2) (
p_box (nthV A 0) h fun x0 h1=>
p_not (nthV A 1) fun x2=>
p_if x2 (onFill [] [] fun l3=>(fun (x4:AV)=>(fun (x5:AV)=>asIf (fun t6 x7=>kp (.iface t6 x7) h1) x5) (.iface 145 x4)) (.agg l3)) (kr undefA h1)) false
noncomputable def h95:FBody:=fun c D k A h kr kp=>ifB (Nat.beq (lenV A) 3) (
p_box (nthV A 0) h fun x0 h1=>
p_box (nthV A 1) h1 fun x2 h3=>
p_box (nthV A 2) h3 fun x4 h5=>
p_faddr 0 x2 fun x6=>
p_load1 x6 h5 fun x7 b8=>
p_faddr 1 x2 fun x9=>
p_load1 x9 h5 fun x10 b11=>
ifB (okAll (.rd b11) h5 h5 [⟨1,(.rd b8),h5,h5⟩]) (
p_faddr 0 x4 fun x12=>
p_store 1 x12 x7 h5 fun h13 b14=>
ifB (okAll (.wr b14) h5 h13 [⟨3,(.rd b11),h5,h5⟩]) (
p_faddr 1 x4 fun x15=>
p_store 1 x15 x10 h13 fun h16 b17=>
p_faddr 8 x4 fun x18=>
p_store 1 x18 .nilSlice h16 fun h19 b20=>
p_faddr 8 x2 fun x21=>
p_store 1 x21 .nilSlice h19 fun h22 b23=>
p_loadN 0 x0 h22 fun x24 b25=>
p_faddr 2 x2 fun x26=>
p_load1 x26 h22 fun x27 b28=>
p_faddr 2 x4 fun x29=>
p_load1 x29 h22 fun x30 b31=>
p_eq x27 x30 fun x32=>
joinV (fun j33=>p_yes x32 (p_faddr 3 x2 fun x36=>
j33 x36 h22) (j33 undefA h22)) fun x34 h35=>
joinV (fun j37=>p_yes x32 (p_load1 x34 h35 fun x40 b41=>
j37 x40 h35) (j37 undefA h35)) fun x38 h39=>
joinV (fun j42=>p_yes x32 (p_faddr 3 x4 fun x45=>
j42 x45 h39) (j42 undefA h39)) fun x43 h44=>
joinV (fun j46=>p_yes x32 (p_load1 x43 h44 fun x49 b50=>
j46 x49 h44) (j46 undefA h44)) fun x47 h48=>
joinV (fun j51=>p_yes x32 (p_eq x38 x47 fun x54=>
j51 x54 h48) (j51 undefA h48)) fun x52 h53=>
p_pick x32 x52 vF fun x55=>
joinV (fun j56=>p_yes x55 (p_faddr 4 x2 fun x59=>
j56 x59 h53) (j56 undefA h53)) fun x57 h58=>
joinV (fun j60=>p_yes x55 (p_load1 x57 h58 fun x63 b64=>
j60 x63 h58) (j60 undefA h58)) fun x61 h62=>
joinV (fun j65=>p_yes x55 (p_faddr 4 x4 fun x68=>
j65 x68 h62) (j65 undefA h62)) fun x66 h67=>
joinV (fun j69=>p_yes x55 (p_load1 x66 h67 fun x72 b73=>
j69 x72 h67) (j69 undefA h67)) fun x70 h71=>
joinV (fun j74=>p_yes x55 (p_eq x61 x70 fun x77=>
j74 x77 h71) (j74 undefA h71)) fun x75 h76=>
p_pick x55 x75 vF fun x78=>
joinV (fun j79=>p_yes x78 (p_faddr 5 x2 fun x82=>
j79 x82 h76) (j79 undefA h76)) fun x80 h81=>
joinV (fun j83=>p_yes x78 (p_load1 x80 h81 fun x86 b87=>
j83 x86 h81) (j83 undefA h81)) fun x84 h85=>
joinV (fun j88=>p_yes x78 (p_faddr 5 x4 fun x91=>
j88 x91 h85) (j88 undefA h85)) fun x89 h90=>
joinV (fun j92=>p_yes x78 (p_load1 x89 h90 fun x95 b96=>
j92 x95 h90) (j92 undefA h90)) fun x93 h94=>
joinV (fun j97=>p_yes x78 (p_eq x84 x93 fun x100=>
j97 x100 h94) (j97 undefA h94)) fun x98 h99=>
p_pick x78 x98 vF fun x101=>
joinV (fun j102=>p_yes x101 (p_faddr 6 x2 fun x105=>
j102 x105 h99) (j102 undefA h99)) fun x103 h104=>
joinV (fun j106=>p_yes x101 (p_load1 x103 h104 fun x109 b110=>
j106 x109 h104) (j106 undefA h104)) fun x107 h108=>
joinV (fun j111=>p_yes x101 (p_faddr 6 x4 fun x114=>
j111 x114 h108) (j111 undefA h108)) fun x112 h113=>
joinV (fun j115=>p_yes x101 (p_load1 x112 h113 fun x118 b119=>
j115 x118 h113) (j115 undefA h113)) fun x116 h117=>
joinV (fun j120=>p_yes x101 (p_eq x107 x116 fun x123=>
j120 x123 h117) (j120 undefA h117)) fun x121 h122=>
p_pick x101 x121 vF fun x124=>
joinV (fun j125=>p_yes x124 (p_faddr 7 x2 fun x128=>
j125 x128 h122) (j125 undefA h122)) fun x126 h127=>
joinV (fun j129=>p_yes x124 (p_load1 x126 h127 fun x132 b133=>
j129 x132 h127) (j129 undefA h127)) fun x130 h131=>
joinV (fun j134=>p_yes x124 (p_faddr 7 x4 fun x137=>
j134 x137 h131) (j134 undefA h131)) fun x135 h136=>
joinV (fun j138=>p_yes x124 (p_load1 x135 h136 fun x141 b142=>
j138 x141 h136) (j138 undefA h136)) fun x139 h140=>
joinV (fun j143=>p_yes x124 (p_eq x130 x139 fun x146=>
j143 x146 h140) (j143 undefA h140)) fun x144 h145=>
p_pick x124 x144 vF fun x147=>
c 94 [x24,x147] h145 (fun x150 h151=>
kr undefA h151) kp) false) false) false
noncomputable def h96:FBody:=fun c D k A h kr kp=>ifB (Nat.beq (lenV A) 2) (
p_box (nthV A 0) h fun x0 h1=>
p_box (nthV A 1) h1 fun x2 h3=>
p_loadN 0 x0 h3 fun x4 b5=>
p_faddr 2 x2 fun x6=>
p_load1 x6 h3 fun x7 b8=>
c 97 [x4,x7] h3 (fun x11 h12=>
p_faddr 0 x2 fun x13=>
p_load1 x13 h12 fun x14 b15=>
joinL (fun j16=>
p_eq x14 (vi 4) fun x19=>
joinL (fun j20=>p_if x19 (
j20 [x19] h12) (p_eq x14 (vi 6) fun x23=>
j20 [x23] h12)) fun l21 h22=>
p_if (nthV l21 0) (p_loadN 0 x0 h22 fun x24 b25=>
p_loadN 9 x2 h22 fun x26 b27=>
p_faddr 2 x2 fun x28=>
p_load1 x28 h22 fun x29 b30=>
onFill [(2,1,x29)] [(vi 0),(vi 0),vS,(vi 0),(vi 0),(vi 0),(vi 0),(.int .u64 (.ofNat 0)),.nilSlice] fun l31=>(fun (x32:AV)=>c 95 [x24,x26,x32] h22 (fun x35 h36=>
j16 [] h36) kp) (.agg l31)) (p_eq x14 (vi 2) fun x37=>
joinL (fun j38=>p_if x37 (
j38 [x37] h22) (p_eq x14 (vi 3) fun x41=>
p_if x41 (j38 [x41] h22) (p_eq x14 (vi 5) fun x42=>
j38 [x42] h22))) fun l39 h40=>
p_if (nthV l39 0) (p_loadN 0 x0 h40 fun x43 b44=>
p_faddr 3 x2 fun x45=>
p_load1 x45 h40 fun x46 b47=>
c 139 [x43,x46] h40 (fun x50 h51=>
p_loadN 0 x0 h51 fun x52 b53=>
p_faddr 4 x2 fun x54=>
p_load1 x54 h51 fun x55 b56=>
p_bin .geq fiGeq x55 (vi 0) fun x57=>
joinV (fun j58=>p_yes x57 (p_faddr 4 x2 fun x61=>
j58 x61 h51) (j58 undefA h51)) fun x59 h60=>
joinV (fun j62=>p_yes x57 (p_load1 x59 h60 fun x65 b66=>
j62 x65 h60) (j62 undefA h60)) fun x63 h64=>
joinV (fun j67=>p_yes x57 (p_eq x63 (vi 0) fun x70=>
j67 x70 h64) (j67 undefA h64)) fun x68 h69=>
joinV (fun j71=>p_yes x57 (j71 x68 h69) (j71 undefA h69)) fun x72 h73=>
joinV (fun j74=>p_no x72 (p_faddr 0 x2 fun x77=>
j74 x77 h73) (j74 undefA h73)) fun x75 h76=>
joinV (fun j78=>p_no x72 (p_load1 x75 h76 fun x81 b82=>
j78 x81 h76) (j78 undefA h76)) fun x79 h80=>
joinV (fun j83=>p_no x72 (p_bin .neq fiNeq x79 (vi 2) fun x86=>
j83 x86 h80) (j83 undefA h80)) fun x84 h85=>
joinV (fun j87=>p_yes x57 (p_pick x72 vT x84 fun x90=>
j87 x90 h85) (j87 undefA h85)) fun x88 h89=>
p_pick x57 x88 vF fun x91=>
c 94 [x52,x91] h89 (fun x94 h95=>
p_loadN 0 x0 h95 fun x96 b97=>
p_loadN 9 x2 h95 fun x98 b99=>
p_faddr 2 x2 fun x100=>
p_load1 x100 h95 fun x101 b102=>
p_faddr 3 x2 fun x103=>
p_load1 x103 h95 fun x104 b105=>
p_faddr 4 x2 fun x106=>
p_load1 x106 h95 fun x107 b108=>
onFill [(2,1,x101),(3,1,x104),(4,1,x107)] [(vi 0),(vi 0),vS,(vi 0),(vi 0),(vi 0),(vi 0),(.int .u64 (.ofNat 0)),.nilSlice] fun l109=>(fun (x110:AV)=>c 95 [x96,x98,x110] h95 (fun x113 h114=>
j16 [] h114) kp) (.agg l109)) kp) kp) (p_eq x14 (vi 7) fun x115=>
p_if x115 (p_loadN 0 x0 h40 fun x116 b117=>
p_faddr 8 x2 fun x118=>
p_load1 x118 h40 fun x119 b120=>
p_lenL x119 fun x121=>
p_bin .geq fiGeq x121 (vi 1) fun x122=>
c 94 [x116,x122] h40 (fun x125 h126=>
p_loadN 0 x0 h126 fun x127 b128=>
p_loadN 9 x2 h126 fun x129 b130=>
p_faddr 2 x2 fun x131=>
p_load1 x131 h126 fun x132 b133=>
p_faddr 8 x2 fun x134=>
p_load1 x134 h126 fun x135 b136=>
p_lenL x135 fun x137=>
p_bin .sub fiSub x137 (vi 1) fun x138=>
onFill [(2,1,x132),(4,1,x138)] [(vi 0),(vi 0),vS,(vi 0),(vi 0),(vi 0),(vi 0),(.int .u64 (.ofNat 0)),.nilSlice] fun l139=>(fun (x140:AV)=>c 95 [x127,x129,x140] h126 (fun x143 h144=>
p_faddr 8 x2 fun x145=>
p_load1 x145 h144 fun x146 b147=>
p_faddr 8 x2 fun x148=>
p_load1 x148 h144 fun x149 b150=>
p_lenL x149 fun x151=>
p_bin .sub fiSub x151 (vi 1) fun x152=>
p_gen (.slc 9 (.t 75) none (some (.t 79)) none) [(75,x146),(79,x152)] h144 fun x153 h154 k155=>
p_lenL x153 fun x156=>
joinL (fun j157=>
loopB k (fun r160 l161 h162=>
p_bin .lss fiLss (nthV l161 0) x156 fun x163=>
joinL (fun j164=>p_if x163 (
j164 [] h162) (j157 [] h162)) fun l165 h166=>
joinL (fun j167=>
p_iaddr 9 x153 (nthV l161 0) fun x170=>
p_loadN 9 x170 h166 fun x171 b172=>
(fun (x173:AV) (h174:AHeap)=>
p_store 9 x173 x171 h174 fun h175 b176=>
p_loadN 0 x0 h175 fun x177 b178=>
p_faddr 0 x173 fun x179=>
p_load1 x179 h175 fun x180 b181=>
p_eq x180 (vi 8) fun x182=>
joinV (fun j183=>p_yes x182 (p_faddr 8 x173 fun x186=>
j183 x186 h175) (j183 undefA h175)) fun x184 h185=>
joinV (fun j187=>p_yes x182 (p_load1 x184 h185 fun x190 b191=>
j187 x190 h185) (j187 undefA h185)) fun x188 h189=>
joinV (fun j192=>p_yes x182 (p_lenL x188 fun x195=>
j192 x195 h189) (j192 undefA h189)) fun x193 h194=>
joinV (fun j196=>p_yes x182 (p_eq x193 (vi 0) fun x199=>
j196 x199 h194) (j196 undefA h194)) fun x197 h198=>
p_pick x182 x197 vF fun x200=>
c 94 [x177,x200] h198 (fun x203 h204=>
p_loadN 0 x0 h204 fun x205 b206=>
p_faddr 2 x173 fun x207=>
p_load1 x207 h204 fun x208 b209=>
c 97 [x205,x208] h204 (fun x212 h213=>
p_loadN 0 x0 h213 fun x214 b215=>
p_faddr 3 x173 fun x216=>
p_load1 x216 h213 fun x217 b218=>
c 139 [x214,x217] h213 (fun x221 h222=>
p_loadN 0 x0 h222 fun x223 b224=>
p_loadN 9 x173 h222 fun x225 b226=>
p_faddr 2 x173 fun x227=>
p_load1 x227 h222 fun x228 b229=>
p_faddr 3 x173 fun x230=>
p_load1 x230 h222 fun x231 b232=>
onFill [(2,1,x228),(3,1,x231)] [(vi 0),(vi 0),vS,(vi 0),(vi 0),(vi 0),(vi 0),(.int .u64 (.ofNat 0)),.nilSlice] fun l233=>(fun (x234:AV)=>c 95 [x223,x225,x234] h222 (fun x237 h238=>
j167 [] h238) kp) (.agg l233)) kp) kp) kp) (.ptr h166.n (nat_lit 0)) (alQ h166 (.cells .own (nat_lit 0) [(vi 0),(vi 0),vS,(vi 0),(vi 0),(vi 0),(vi 0),(.int .u64 (.ofNat 0)),.nilSlice]))) fun l168 h169=>
p_add (nthV l161 0) (vi 1) fun x239=>
r160 [x239] h169) [(vi 0)] h154) fun l158 h159=>
p_loadN 0 x0 h159 fun x240 b241=>
p_faddr 8 x2 fun x242=>
p_load1 x242 h159 fun x243 b244=>
ifB (okAll (.rd b244) h159 h159 [⟨0,(.rd b241),h159,h159⟩]) (
p_faddr 8 x2 fun x245=>
p_load1 x245 h159 fun x246 b247=>
ifB (okAll (.rd b247) h159 h159 [⟨2,(.rd b244),h159,h159⟩,⟨0,(.rd b241),h159,h159⟩]) (
p_lenL x246 fun x248=>
p_bin .sub fiSub x248 (vi 1) fun x249=>
p_iaddr 9 x243 x249 fun x250=>
p_loadN 9 x250 h159 fun x251 b252=>
ifB (okAll (.rd b252) h159 h159 [⟨0,(.rd b241),h159,h159⟩]) (
c 140 [x240,x251] h159 (fun x255 h256=>
kr undefA h256) kp) false) false) false) kp) (.agg l139)) kp) (p_loadN 0 x0 h40 fun x257 b258=>
c 94 [x257,vF] h40 (fun x261 h262=>
j16 [] h262) kp)))) fun l17 h18=>
p_loadN 0 x0 h18 fun x263 b264=>
p_faddr 8 x2 fun x265=>
p_load1 x265 h18 fun x266 b267=>
p_lenL x266 fun x268=>
p_eq x268 (vi 0) fun x269=>
c 94 [x263,x269] h18 (fun x272 h273=>
kr undefA h273) kp) kp) false
noncomputable def h97:FBody:=fun c D k A h kr kp=>ifB (Nat.beq (lenV A) 2) (
p_box (nthV A 0) h fun x0 h1=>
c 33 [(nthV A 1)] h1 (fun x4 h5=>
p_ext x4 0 fun x6=>
p_ext x4 1 fun x7=>
(fun (x8:AV) (h9:AHeap)=>
p_store 2 x8 x7 h9 fun h10 b11=>
p_loadN 0 x0 h10 fun x12 b13=>
p_faddr 0 x8 fun x14=>
p_load1 x14 h10 fun x15 b16=>
ifB (okAll (.rd b16) h10 h10 [⟨0,(.rd b13),h10,h10⟩]) (
p_eqv false (.one .iface) x15 .nilIface fun x17=>
joinC (fun j18=>p_yes x17 (j18 x6 h10 .free h10) (j18 undefA h10 .free h10)) fun x19 h20 k21 h22=>
joinC (fun j23=>p_yes x17 (p_lenL x19 fun x28=>
j23 x28 h20 .free h20) (j23 undefA h20 .free h20)) fun x24 h25 k26 h27=>
joinC (fun j29=>p_yes x17 (p_eq x24 (vi 1) fun x34=>
j29 x34 h25 .free h25) (j29 undefA h25 .free h25)) fun x30 h31 k32 h33=>
p_pick x17 x30 vF fun x35=>
joinC (fun j36=>p_yes x35 (j36 x6 h31 .free h31) (j36 undefA h31 .free h31)) fun x37 h38 k39 h40=>
joinC (fun j41=>p_yes x35 (p_iaddr 5 x37 (vi 0) fun x46=>
j41 x46 h38 .free h38) (j41 undefA h38 .free h38)) fun x42 h43 k44 h45=>
joinC (fun j47=>p_yes x35 (p_faddr 0 x42 fun x52=>
j47 x52 h43 .free h43) (j47 undefA h43 .free h43)) fun x48 h49 k50 h51=>
joinC (fun j53=>p_yes x35 (p_load1 x48 h49 fun x58 b59=>
ifB (okAll (.rd b59) h49 h49 [⟨0,(.rd b13),h10,h10⟩]) (
j53 x58 h49 (.rd b59) h49) false) (j53 undefA h49 .free h49)) fun x54 h55 k56 h57=>
joinC (fun j60=>p_yes x35 (p_eq x54 (vi 1) fun x65=>
j60 x65 h55 .free h55) (j60 undefA h55 .free h55)) fun x61 h62 k63 h64=>
p_pick x35 x61 vF fun x66=>
joinC (fun j67=>p_yes x66 (j67 x6 h62 .free h62) (j67 undefA h62 .free h62)) fun x68 h69 k70 h71=>
joinC (fun j72=>p_yes x66 (p_iaddr 5 x68 (vi 0) fun x77=>
j72 x77 h69 .free h69) (j72 undefA h69 .free h69)) fun x73 h74 k75 h76=>
joinC (fun j78=>p_yes x66 (p_faddr 1 x73 fun x83=>
j78 x83 h74 .free h74) (j78 undefA h74 .free h74)) fun x79 h80 k81 h82=>
joinC (fun j84=>p_yes x66 (p_load1 x79 h80 fun x89 b90=>
ifB (okAll (.rd b90) h80 h80 [⟨0,(.rd b13),h10,h10⟩]) (
j84 x89 h80 (.rd b90) h80) false) (j84 undefA h80 .free h80)) fun x85 h86 k87 h88=>
joinC (fun j91=>p_yes x66 (j91 (nthV A 1) h86 .free h86) (j91 undefA h86 .free h86)) fun x92 h93 k94 h95=>
joinC (fun j96=>p_yes x66 (p_eq x85 x92 fun x101=>
j96 x101 h93 .free h93) (j96 undefA h93 .free h93)) fun x97 h98 k99 h100=>
p_pick x66 x97 vF fun x102=>
c 94 [x12,x102] h98 (fun x105 h106=>
kr undefA h106) kp) false) (.ptr h5.n (nat_lit 0)) (alQ h5 (.cells .own (nat_lit 0) [.nilIface,(vi 0)]))) kp) false
noncomputable def h98:FBody:=fun c D k A h kr kp=>ifB (Nat.beq (lenV A) 1) (
onFill [(0,1,(.str [124,124]))] [vS] fun l0=>ifB (flatsQ l0) ((fun (x1:AV) (h2:AHeap)=>
onFill [(0,1,(.str [38,38]))] [vS] fun l3=>ifB (flatsQ l3) ((fun (x4:AV) (h5:AHeap)=>
onFill [(0,1,(.str [61,61])),(1,1,(.str [33,61])),(2,1,(.str [60])),(3,1,(.str [60,61])),(4,1,(.str [62])),(5,1,(.str [62,61]))] [vS,vS,vS,vS,vS,vS] fun l6=>ifB (flatsQ l6) ((fun (x7:AV) (h8:AHeap)=>
onFill [(0,1,(.str [43])),(1,1,(.str [45]))] [vS,vS] fun l9=>ifB (flatsQ l9) ((fun (x10:AV) (h11:AHeap)=>
onFill [(0,1,(.str [42])),(1,1,(.str [47])),(2,1,(.str [37]))] [vS,vS,vS] fun l12=>ifB (flatsQ l12) ((fun (x13:AV) (h14:AHeap)=>
onFill [(0,1,x1),(1,1,x4),(2,1,x7),(3,1,x10),(4,1,x13)] [.nilSlice,.nilSlice,.nilSlice,.nilSlice,.nilSlice] fun l15=>(fun (x16:AV)=>joinL (fun j17=>
loopB k (fun r20 l21 h22=>
p_bin .lss fiLss (nthV l21 1) (vi 5) fun x23=>
joinL (fun j24=>p_if x23 (
j24 [] h22) (j17 [(nthV l21 0)] h22)) fun l25 h26=>
joinL (fun j27=>
p_idxa1 5 1 x16 (nthV l21 1) fun x30=>
p_lenL x30 fun x31=>
loopB k (fun r32 l33 h34=>
p_bin .lss fiLss (nthV l33 1) x31 fun x35=>
joinL (fun j36=>p_if x35 (
j36 [] h34) (j27 [(nthV l33 0)] h34)) fun l37 h38=>
joinL (fun j39=>
p_iaddr 1 x30 (nthV l33 1) fun x42=>
p_load1 x42 h38 fun x43 b44=>
p_eq x43 (nthV A 0) fun x45=>
p_if x45 (p_add (nthV l21 1) (vi 1) fun x46=>
kr x46 h38) (j39 [(nthV l33 0)] h38)) fun l40 h41=>
p_add (nthV l33 1) (vi 1) fun x47=>
r32 [(nthV l40 0),x47] h41) [(nthV l21 0),(vi 0)] h26) fun l28 h29=>
p_add (nthV l21 1) (vi 1) fun x48=>
r20 [(nthV l28 0),x48] h29) [(vi 0),(vi 0)] h14) fun l18 h19=>
kr (vi 0) h19) (.agg l15)) (.slice h11.n (nat_lit 0) 3 3 true) (alQ h11 (.cells .own 1 l12))) false) (.slice h8.n (nat_lit 0) 2 2 true) (alQ h8 (.cells .own 1 l9))) false) (.slice h5.n (nat_lit 0) 6 6 true) (alQ h5 (.cells .own 1 l6))) false) (.slice h2.n (nat_lit 0) 1 1 true) (alQ h2 (.cells .own 1 l3))) false) (.slice h.n (nat_lit 0) 1 1 true) (alQ h (.cells .own 1 l0))) false) false
noncomputable def h100:FBody:=fun c D k A h kr kp=>ifB (Nat.beq (lenV A) 2) (
c 142 [(nthV A 0),(nthV A 1)] h (fun x2 h3=>
kr x2 h3) kp) false
noncomputable def h102:FBody:=fun c D k A h kr kp=>ifB (Nat.beq (lenV A) 2) (
p_box (nthV A 0) h fun x0 h1=>
p_loadN 9 x0 h1 fun x2 b3=>
c 103 [x2] h1 (fun x6 h7=>
p_bin .lss fiLss x6 (nthV A 1) fun x8=>
joinL (fun j9=>p_if x8 (
p_loadN 9 x0 h7 fun x12 b13=>
c 58 [x12] h7 (fun x16 h17=>
p_add (.str [40]) x16 fun x18=>
p_add x18 (.str [41]) fun x19=>
kr x19 h17) kp) (j9 [vS] h7)) fun l10 h11=>
p_loadN 9 x0 h11 fun x20 b21=>
c 58 [x20] h11 (fun x24 h25=>
kr x24 h25) kp) kp) false
noncomputable def h103:FBody:=fun c D k A h kr kp=>ifB (Nat.beq (lenV A) 1) (
p_box (nthV A 0) h fun x0 h1=>
p_faddr 0 x0 fun x2=>
p_load1 x2 h1 fun x3 b4=>
p_bin .neq fiNeq x3 (vi 31) fun x5=>
joinL (fun j6=>p_if x5 (
kr (vi 6) h1) (j6 [(vi 0)] h1)) fun l7 h8=>
p_faddr 2 x0 fun x9=>
p_load1 x9 h8 fun x10 b11=>
c 98 [x10] h8 (fun x14 h15=>
kr x14 h15) kp) false
noncomputable def h104:FBody:=fun c D k A h kr kp=>ifB (Nat.beq (lenV A) 4) (
(fun (x0:AV) (h1:AHeap)=>
p_fn (nthV A 1) fun g6 a7 b8=>c g6 (appL a7 (appL [] b8)) h1 (fun x4 h5=>
(fun (x9:AV) (h10:AHeap)=>
p_store 9 x9 x4 h10 fun h11 b12=>
joinL (fun j13=>
loopB k (fun r16 l17 h18=>
c 86 [(nthV A 0),(nthV A 3)] h18 (fun x21 h22=>
joinL (fun j23=>p_if x21 (
j23 [] h22) (j13 [] h22)) fun l24 h25=>
c 48 [(nthV A 0)] h25 (fun x28 h29=>
p_fld x28 1 fun x30=>
asNil (
p_faddr 0 (nthV A 0) fun x31=>
p_load1 x31 h29 fun x32 b33=>
p_gen (.slc 5 (.t 23) (some (.c (vi 1))) none none) [(23,x32)] h29 fun x34 h35 k36=>
asNil (
p_faddr 0 (nthV A 0) fun x37=>
p_store 1 x37 x34 h35 fun h38 b39=>
p_faddr 1 x9 fun x40=>
p_load1 x40 h38 fun x41 b42=>
p_loadN 9 x9 h38 fun x43 b44=>
ifB (okAll (.rd b44) h38 h38 [⟨1,(.rd b42),h38,h38⟩]) (
p_fn (nthV A 1) fun g49 a50 b51=>c g49 (appL a50 (appL [] b51)) h38 (fun x47 h48=>
ifB (okAll .big h38 h48 [⟨3,(.rd b44),h38,h38⟩,⟨1,(.rd b42),h38,h38⟩]) (
onFill [(0,9,x43),(9,9,x47)] [(vi 0),(vi 0),vS,(vi 0),(vi 0),(vi 0),(vi 0),(.int .u64 (.ofNat 0)),.nilSlice,(vi 0),(vi 0),vS,(vi 0),(vi 0),(vi 0),(vi 0),(.int .u64 (.ofNat 0)),.nilSlice] fun l52=>ifB (flatsQ l52) ((fun (x53:AV) (h54:AHeap)=>
ifB (okAll .new h48 h54 [⟨1,(.rd b42),h38,h38⟩]) (
onFill [(0,1,(vi 31)),(1,1,x41),(2,1,x30),(8,1,x53)] [(vi 0),(vi 0),vS,(vi 0),(vi 0),(vi 0),(vi 0),(.int .u64 (.ofNat 0)),.nilSlice] fun l55=>(fun (x56:AV)=>p_store 9 x9 x56 h54 fun h57 b58=>
p_not (nthV A 2) fun x59=>
p_if x59 (j13 [] h57) (r16 [] h57)) (.agg l55)) false) (.slice h48.n (nat_lit 0) 2 2 true) (alQ h48 (.cells .own 9 l52))) false) false) (fun p45 h46=>ifB (okAll .big h38 h46 [⟨3,(.rd b44),h38,h38⟩,⟨1,(.rd b42),h38,h38⟩]) (
kp p45 h46) false)) false) (nthV A 0)) (nthV A 0)) kp) kp) [] h11) fun l14 h15=>
p_loadN 9 x9 h15 fun x60 b61=>
p_store 9 x0 x60 h15 fun h62 b63=>
p_loadN 9 x0 h62 fun x64 b65=>kr x64 h62) (.ptr h5.n (nat_lit 0)) (alQ h5 (.cells .own (nat_lit 0) [(vi 0),(vi 0),vS,(vi 0),(vi 0),(vi 0),(vi 0),(.int .u64 (.ofNat 0)),.nilSlice]))) kp) (.ptr h.n (nat_lit 0)) (alQ h (.cells .own (nat_lit 0) [(vi 0),(vi 0),vS,(vi 0),(vi 0),(vi 0),(vi 0),(.int .u64 (.ofNat 0)),.nilSlice]))) false
noncomputable def h105:FBody:=fun c D k A h kr kp=>ifB (Nat.beq (lenV A) 1) (
(fun (x0:AV) (h1:AHeap)=>
(fun (x2:AV)=>onFill [(0,1,(.str [38,38]))] [vS] fun l3=>ifB (flatsQ l3) ((fun (x4:AV) (h5:AHeap)=>
c 104 [(nthV A 0),x2,vT,x4] h5 (fun x8 h9=>
p_store 9 x0 x8 h9 fun h10 b11=>
p_loadN 9 x0 h10 fun x12 b13=>kr x12 h10) kp) (.slice h1.n (nat_lit 0) 1 1 true) (alQ h1 (.cells .own 1 l3))) false) (.func (.func 146) [(nthV A 0)] [])) (.ptr h.n (nat_lit 0)) (alQ h (.cells .own (nat_lit 0) [(vi 0),(vi 0),vS,(vi 0),(vi 0),(vi 0),(vi 0),(.int .u64 (.ofNat 0)),.nilSlice]))) false
noncomputable def h107:FBody:=fun c D k A h kr kp=>ifB (Nat.beq (lenV A) 2) (
asNil (
p_faddr 0 (nthV A 0) fun x0=>
asNil (
p_faddr 2 (nthV A 0) fun x1=>
p_load1 x1 h fun x2 b3=>
c 101 [(.str [9]),x2] h (fun x6 h7=>
c 109 [(nthV A 1),vS] h7 (fun x10 h11=>
p_add x6 x10 fun x12=>
p_add x12 (.str [10]) fun x13=>
c 144 [x0,x13] h11 (fun x16 h17=>
kr undefA h17) kp) kp) kp) (nthV A 0)) (nthV A 0)) false
noncomputable def h108:FBody:=fun c D k A h kr kp=>ifB (Nat.beq (lenV A) 1) (
onFill [(0,1,(.str [105,110,116])),(1,1,(.str [102,108,111,97,116])),(2,1,(.str [98,111,111,108]))] [vS,vS,vS] fun l0=>(fun (x1:AV)=>p_bin .sub fiSub (nthV A 0) (vi 1) fun x2=>
p_idxa1 3 1 x1 x2 fun x3=>
kr x3 h) (.agg l0)) false
noncomputable def h110:FBody:=fun c D k A h kr kp=>ifB (Nat.beq (lenV A) 2) (
p_box (nthV A 1) h fun x0 h1=>
asNil (
p_faddr 2 (nthV A 0) fun x2=>
p_load1 x2 h1 fun x3 b4=>
p_add x3 (vi 1) fun x5=>
asNil (
p_faddr 2 (nthV A 0) fun x6=>
p_store 1 x6 x5 h1 fun h7 b8=>
p_faddr 8 x0 fun x9=>
p_load1 x9 h7 fun x10 b11=>
p_lenL x10 fun x12=>
joinL (fun j13=>
loopB k (fun r16 l17 h18=>
p_bin .lss fiLss (nthV l17 0) x12 fun x19=>
joinL (fun j20=>p_if x19 (
j20 [] h18) (j13 [] h18)) fun l21 h22=>
joinL (fun j23=>
p_iaddr 9 x10 (nthV l17 0) fun x26=>
p_loadN 9 x26 h22 fun x27 b28=>
(fun (x29:AV) (h30:AHeap)=>
p_store 9 x29 x27 h30 fun h31 b32=>
p_loadN 9 x29 h31 fun x33 b34=>
c 149 [(nthV A 0),x33] h31 (fun x37 h38=>
j23 [] h38) kp) (.ptr h22.n (nat_lit 0)) (alQ h22 (.cells .own (nat_lit 0) [(vi 0),(vi 0),vS,(vi 0),(vi 0),(vi 0),(vi 0),(.int .u64 (.ofNat 0)),.nilSlice]))) fun l24 h25=>
p_add (nthV l17 0) (vi 1) fun x39=>
r16 [x39] h25) [(vi 0)] h7) fun l14 h15=>
asNil (
p_faddr 2 (nthV A 0) fun x40=>
p_load1 x40 h15 fun x41 b42=>
p_bin .sub fiSub x41 (vi 1) fun x43=>
asNil (
p_faddr 2 (nthV A 0) fun x44=>
p_store 1 x44 x43 h15 fun h45 b46=>
kr undefA h45) (nthV A 0)) (nthV A 0)) (nthV A 0)) (nthV A 0)) false
noncomputable def h112:FBody:=fun c D k A h kr kp=>ifB (Nat.beq (lenV A) 2) (
asNil (
p_faddr 1 (nthV A 0) fun x0=>
p_load1 x0 h fun x1 b2=>
joinL (fun j3=>
loopB k (fun r6 l7 h8=>
c 116 [(nthV A 0),(nthV A 1)] h8 (fun x11 h12=>
joinL (fun j13=>p_if x11 (
j13 [] h12) (j3 [] h12)) fun l14 h15=>
asNil (
p_faddr 1 (nthV A 0) fun x16=>
p_load1 x16 h15 fun x17 b18=>
p_add x17 (vi 1) fun x19=>
asNil (
p_faddr 1 (nthV A 0) fun x20=>
p_store 1 x20 x19 h15 fun h21 b22=>
r6 [] h21) (nthV A 0)) (nthV A 0)) kp) [] h) fun l4 h5=>
asNil (
p_faddr 0 (nthV A 0) fun x23=>
p_load1 x23 h5 fun x24 b25=>
asNil (
p_faddr 1 (nthV A 0) fun x26=>
p_load1 x26 h5 fun x27 b28=>
ifB (okAll (.rd b28) h5 h5 [⟨3,(.rd b25),h5,h5⟩]) (
asStr (fun s29=>onBnd x27 (lenB s29) fun n30=>onBnd x1 n30 fun n31=>(fun (x32:AV)=>kr x32 h5) (.str (takeQ (dropC s29 n31) (Nat.sub n30 n31)))) x24) false) (nthV A 0)) (nthV A 0)) (nthV A 0)) false
noncomputable def h113:FBody:=fun c D k A h kr kp=>ifB (Nat.beq (lenV A) 1) (
p_eq (nthV A 0) (.int .u8 (.ofNat 32)) fun x0=>
joinV (fun j1=>p_no x0 (j1 (nthV A 0) h) (j1 undefA h)) fun x2 h3=>
joinV (fun j4=>p_no x0 (p_eq x2 (.int .u8 (.ofNat 9)) fun x7=>
j4 x7 h3) (j4 undefA h3)) fun x5 h6=>
p_pick x0 vT x5 fun x8=>
joinV (fun j9=>p_no x8 (j9 (nthV A 0) h6) (j9 undefA h6)) fun x10 h11=>
joinV (fun j12=>p_no x8 (p_eq x10 (.int .u8 (.ofNat 10)) fun x15=>
j12 x15 h11) (j12 undefA h11)) fun x13 h14=>
p_pick x8 vT x13 fun x16=>
joinV (fun j17=>p_no x16 (j17 (nthV A 0) h14) (j17 undefA h14)) fun x18 h19=>
joinV (fun j20=>p_no x16 (p_eq x18 (.int .u8 (.ofNat 13)) fun x23=>
j20 x23 h19) (j20 undefA h19)) fun x21 h22=>
p_pick x16 vT x21 fun x24=>
kr x24 h22) false
noncomputable def h114:FBody:=fun c D k A h kr kp=>ifB (Nat.beq (lenV A) 2) (
c 151 [(nthV A 0),(nthV A 1)] h (fun x2 h3=>
kr x2 h3) kp) false
noncomputable def h115:FBody:=fun c D k A h kr kp=>ifB (Nat.beq (lenV A) 1) (
p_bin .neq fiNeq (nthV A 0) (.int .u8 (.ofNat 10)) fun x0=>
kr x0 h) false
noncomputable def h116:FBody:=fun c D k A h kr kp=>ifB (Nat.beq (lenV A) 2) (
asNil (
p_faddr 1 (nthV A 0) fun x0=>
p_load1 x0 h fun x1 b2=>
asNil (
p_faddr 0 (nthV A 0) fun x3=>
p_load1 x3 h fun x4 b5=>
ifB (okAll (.rd b5) h h [⟨3,(.rd b2),h,h⟩]) (
p_lenS x4 fun x6=>
p_bin .lss fiLss x1 x6 fun x7=>
joinC (fun j8=>p_yes x7 (j8 (nthV A 1) h .free h) (j8 undefA h .free h)) fun x9 h10 k11 h12=>
joinC (fun j13=>p_yes x7 (j13 (nthV A 0) h10 .free h10) (j13 undefA h10 .free h10)) fun x14 h15 k16 h17=>
joinC (fun j18=>p_yes x7 (asNil (
j18 x14 h15 .free h15) x14) (j18 undefA h15 .free h15)) fun x19 h20 k21 h22=>
joinC (fun j23=>p_yes x7 (p_faddr 0 x19 fun x28=>
j23 x28 h20 .free h20) (j23 undefA h20 .free h20)) fun x24 h25 k26 h27=>
joinC (fun j29=>p_yes x7 (p_load1 x24 h25 fun x34 b35=>
j29 x34 h25 (.rd b35) h25) (j29 undefA h25 .free h25)) fun x30 h31 k32 h33=>
joinC (fun j36=>p_yes x7 (j36 (nthV A 0) h31 .free h31) (j36 undefA h31 .free h31)) fun x37 h38 k39 h40=>
joinC (fun j41=>p_yes x7 (asNil (
j41 x37 h38 .free h38) x37) (j41 undefA h38 .free h38)) fun x42 h43 k44 h45=>
joinC (fun j46=>p_yes x7 (p_faddr 1 x42 fun x51=>
j46 x51 h43 .free h43) (j46 undefA h43 .free h43)) fun x47 h48 k49 h50=>
joinC (fun j52=>p_yes x7 (p_load1 x47 h48 fun x57 b58=>
ifB (okAll (.rd b58) h48 h48 [⟨15,k32,h33,h31⟩]) (
j52 x57 h48 (.rd b58) h48) false) (j52 undefA h48 .free h48)) fun x53 h54 k55 h56=>
joinC (fun j59=>p_yes x7 (p_idxs x30 x53 fun x64=>
j59 x64 h54 .free h54) (j59 undefA h54 .free h54)) fun x60 h61 k62 h63=>
joinC (fun j65=>p_yes x7 (p_fn x9 fun g74 a75 b76=>c g74 (appL a75 (appL [x60] b76)) h61 (fun x72 h73=>
j65 x72 h73 .big h61) kp) (j65 undefA h61 .free h61)) fun x66 h67 k68 h69=>
p_pick x7 x66 vF fun x77=>
kr x77 h67) false) (nthV A 0)) (nthV A 0)) false
noncomputable def h117:FBody:=fun c D k A h kr kp=>ifB (Nat.beq (lenV A) 1) (
p_bin .geq fiGeq (nthV A 0) (.int .u8 (.ofNat 97)) fun x0=>
joinV (fun j1=>p_yes x0 (j1 (nthV A 0) h) (j1 undefA h)) fun x2 h3=>
joinV (fun j4=>p_yes x0 (p_bin .leq fiLeq x2 (.int .u8 (.ofNat 122)) fun x7=>
j4 x7 h3) (j4 undefA h3)) fun x5 h6=>
p_pick x0 x5 vF fun x8=>
joinV (fun j9=>p_no x8 (j9 (nthV A 0) h6) (j9 undefA h6)) fun x10 h11=>
joinV (fun j12=>p_no x8 (p_bin .geq fiGeq x10 (.int .u8 (.ofNat 65)) fun x15=>
j12 x15 h11) (j12 undefA h11)) fun x13 h14=>
joinV (fun j16=>p_no x8 (j16 x13 h14) (j16 undefA h14)) fun x17 h18=>
joinV (fun j19=>p_yes x17 (j19 (nthV A 0) h18) (j19 undefA h18)) fun x20 h21=>
joinV (fun j22=>p_yes x17 (p_bin .leq fiLeq x20 (.int .u8 (.ofNat 90)) fun x25=>
j22 x25 h21) (j22 undefA h21)) fun x23 h24=>
joinV (fun j26=>p_no x8 (p_pick x17 x23 vF fun x29=>
j26 x29 h24) (j26 undefA h24)) fun x27 h28=>
p_pick x8 vT x27 fun x30=>
joinV (fun j31=>p_no x30 (j31 (nthV A 0) h28) (j31 undefA h28)) fun x32 h33=>
joinV (fun j34=>p_no x30 (p_eq x32 (.int .u8 (.ofNat 95)) fun x37=>
j34 x37 h33) (j34 undefA h33)) fun x35 h36=>
p_pick x30 vT x35 fun x38=>
kr x38 h36) false
noncomputable def h118:FBody:=fun c D k A h kr kp=>ifB (Nat.beq (lenV A) 1) (
(fun (x0:AV) (h1:AHeap)=>
asNil (
p_faddr 1 (nthV A 0) fun x2=>
p_load1 x2 h1 fun x3 b4=>
onFill [(0,1,(vi 1)),(4,1,x3)] [(vi 0),vS,(vi 0),(.int .u64 (.ofNat 0)),(vi 0)] fun l5=>(fun (x6:AV)=>(fun (x7:AV) (h8:AHeap)=>
p_store 5 x7 x6 h8 fun h9 b10=>
c 112 [(nthV A 0),(.func (.func 152) [] [])] h9 (fun x13 h14=>
p_faddr 1 x7 fun x15=>
p_store 1 x15 x13 h14 fun h16 b17=>
p_faddr 1 x7 fun x18=>
p_load1 x18 h16 fun x19 b20=>
p_lenS x19 fun x21=>
p_bin .gtr fiGtr x21 (vi 24) fun x22=>
joinL (fun j23=>p_if x22 (
p_load1 (.ptr 7 0) h16 fun x26 b27=>
p_faddr 4 x7 fun x28=>
p_load1 x28 h16 fun x29 b30=>
c 72 [(nthV A 0),x26,x29] h16 (fun x33 h34=>
j23 [] h34) kp) (j23 [] h16)) fun l24 h25=>
p_faddr 1 x7 fun x35=>
p_load1 x35 h25 fun x36 b37=>
c 153 [x36] h25 (fun x40 h41=>
joinL (fun j42=>p_if x40 (
p_faddr 0 x7 fun x45=>
p_store 1 x45 (vi 2) h41 fun h46 b47=>
j42 [] h46) (j42 [] h41)) fun l43 h44=>
p_loadN 5 x7 h44 fun x48 b49=>
p_store 5 x0 x48 h44 fun h50 b51=>
p_loadN 5 x0 h50 fun x52 b53=>kr x52 h50) kp) kp) (.ptr h1.n (nat_lit 0)) (alQ h1 (.cells .own (nat_lit 0) [(vi 0),vS,(vi 0),(.int .u64 (.ofNat 0)),(vi 0)]))) (.agg l5)) (nthV A 0)) (.ptr h.n (nat_lit 0)) (alQ h (.cells .own (nat_lit 0) [(vi 0),vS,(vi 0),(.int .u64 (.ofNat 0)),(vi 0)]))) false
noncomputable def h119:FBody:=fun c D k A h kr kp=>ifB (Nat.beq (lenV A) 1) (
p_bin .geq fiGeq (nthV A 0) (.int .u8 (.ofNat 48)) fun x0=>
joinV (fun j1=>p_yes x0 (j1 (nthV A 0) h) (j1 undefA h)) fun x2 h3=>
joinV (fun j4=>p_yes x0 (p_bin .leq fiLeq x2 (.int .u8 (.ofNat 57)) fun x7=>
j4 x7 h3) (j4 undefA h3)) fun x5 h6=>
p_pick x0 x5 vF fun x8=>
kr x8 h6) false
noncomputable def h120:FBody:=fun c D k A h kr kp=>ifB (Nat.beq (lenV A) 1) (
(fun (x0:AV) (h1:AHeap)=>
asNil (
p_faddr 1 (nthV A 0) fun x2=>
p_load1 x2 h1 fun x3 b4=>
onFill [(0,1,(vi 3)),(4,1,x3)] [(vi 0),vS,(vi 0),(.int .u64 (.ofNat 0)),(vi 0)] fun l5=>(fun (x6:AV)=>(fun (x7:AV) (h8:AHeap)=>
p_store 5 x7 x6 h8 fun h9 b10=>
p_faddr 1 x7 fun x11=>
p_store 1 x11 (.str [48]) h9 fun h12 b13=>
asNil (
p_faddr 0 (nthV A 0) fun x14=>
p_load1 x14 h12 fun x15 b16=>
asNil (
p_faddr 1 (nthV A 0) fun x17=>
p_load1 x17 h12 fun x18 b19=>
ifB (okAll (.rd b19) h12 h12 [⟨3,(.rd b16),h12,h12⟩]) (
p_idxs x15 x18 fun x20=>
p_eq x20 (.int .u8 (.ofNat 48)) fun x21=>
joinL (fun j22=>p_if x21 (
asNil (
p_faddr 1 (nthV A 0) fun x25=>
p_load1 x25 h12 fun x26 b27=>
p_add x26 (vi 1) fun x28=>
asNil (
p_faddr 1 (nthV A 0) fun x29=>
p_store 1 x29 x28 h12 fun h30 b31=>
j22 [] h30) (nthV A 0)) (nthV A 0)) (c 112 [(nthV A 0),(.func (.func 119) [] [])] h12 (fun x34 h35=>
p_faddr 1 x7 fun x36=>
p_store 1 x36 x34 h35 fun h37 b38=>
j22 [] h37) kp)) fun l23 h24=>
p_faddr 1 x7 fun x39=>
p_load1 x39 h24 fun x40 b41=>
p_lenS x40 fun x42=>
joinL (fun j43=>
loopB k (fun r46 l47 h48=>
p_bin .lss fiLss (nthV l47 1) x42 fun x49=>
joinL (fun j50=>p_if x49 (
j50 [] h48) (j43 [(nthV l47 0)] h48)) fun l51 h52=>
joinL (fun j53=>
p_faddr 1 x7 fun x56=>
p_load1 x56 h52 fun x57 b58=>
p_idxs x57 (nthV l47 1) fun x59=>
p_bin .sub fiSub x59 (.int .u8 (.ofNat 48)) fun x60=>
p_cvi .i64 x60 fun x61=>
joinV (fun j62=>p_no (nthV l47 0) (p_faddr 2 x7 fun x65=>
j62 x65 h52) (j62 undefA h52)) fun x63 h64=>
joinV (fun j66=>p_no (nthV l47 0) (p_load1 x63 h64 fun x69 b70=>
j66 x69 h64) (j66 undefA h64)) fun x67 h68=>
joinV (fun j71=>p_no (nthV l47 0) (j71 x61 h68) (j71 undefA h68)) fun x72 h73=>
joinV (fun j74=>p_no (nthV l47 0) (p_bin .sub fiSub (vi 9223372036854775807) x72 fun x77=>
j74 x77 h73) (j74 undefA h73)) fun x75 h76=>
joinV (fun j78=>p_no (nthV l47 0) (p_gen (.bin .quo (.t 50) (.c (vi 10))) [(50,x75)] h76 fun x81 h82 k83=>
j78 x81 h82) (j78 undefA h76)) fun x79 h80=>
joinV (fun j84=>p_no (nthV l47 0) (p_bin .gtr fiGtr x67 x79 fun x87=>
j84 x87 h80) (j84 undefA h80)) fun x85 h86=>
p_pick (nthV l47 0) vT x85 fun x88=>
p_faddr 2 x7 fun x89=>
p_load1 x89 h86 fun x90 b91=>
p_gen (.bin .mul (.c (vi 10)) (.t 55)) [(55,x90)] h86 fun x92 h93 k94=>
p_add x92 x61 fun x95=>
p_faddr 2 x7 fun x96=>
p_store 1 x96 x95 h93 fun h97 b98=>
j53 [x88] h97) fun l54 h55=>
p_add (nthV l47 1) (vi 1) fun x99=>
r46 [(nthV l54 0),x99] h55) [vF,(vi 0)] h24) fun l44 h45=>
joinL (fun j100=>p_if (nthV l44 0) (
p_load1 (.ptr 2 0) h45 fun x103 b104=>
p_faddr 4 x7 fun x105=>
p_load1 x105 h45 fun x106 b107=>
c 72 [(nthV A 0),x103,x106] h45 (fun x110 h111=>
j100 [] h111) kp) (j100 [] h45)) fun l101 h102=>
c 154 [(nthV A 0)] h102 (fun x114 h115=>
p_loadN 5 x7 h115 fun x116 b117=>
p_store 5 x0 x116 h115 fun h118 b119=>
p_loadN 5 x0 h118 fun x120 b121=>kr x120 h118) kp) false) (nthV A 0)) (nthV A 0)) (.ptr h1.n (nat_lit 0)) (alQ h1 (.cells .own (nat_lit 0) [(vi 0),vS,(vi 0),(.int .u64 (.ofNat 0)),(vi 0)]))) (.agg l5)) (nthV A 0)) (.ptr h.n (nat_lit 0)) (alQ h (.cells .own (nat_lit 0) [(vi 0),vS,(vi 0),(.int .u64 (.ofNat 0)),(vi 0)]))) false
noncomputable def h121:FBody:=fun c D k A h kr kp=>ifB (Nat.beq (lenV A) 1) (
(fun (x0:AV) (h1:AHeap)=>
asNil (
p_faddr 1 (nthV A 0) fun x2=>
p_load1 x2 h1 fun x3 b4=>
onFill [(0,1,(vi 4)),(4,1,x3)] [(vi 0),vS,(vi 0),(.int .u64 (.ofNat 0)),(vi 0)] fun l5=>(fun (x6:AV)=>(fun (x7:AV) (h8:AHeap)=>
p_store 5 x7 x6 h8 fun h9 b10=>
asNil (
p_faddr 1 (nthV A 0) fun x11=>
p_load1 x11 h9 fun x12 b13=>
p_add x12 (vi 1) fun x14=>
asNil (
p_faddr 1 (nthV A 0) fun x15=>
p_store 1 x15 x14 h9 fun h16 b17=>
joinL (fun j18=>
loopB k (fun r21 l22 h23=>
p_bin .lss fiLss (nthV l22 0) (vi 16) fun x24=>
joinL (fun j25=>p_if x24 (
j25 [] h23) (j18 [] h23)) fun l26 h27=>
joinL (fun j28=>
asNil (
p_faddr 1 (nthV A 0) fun x31=>
p_load1 x31 h27 fun x32 b33=>
asNil (
p_faddr 0 (nthV A 0) fun x34=>
p_load1 x34 h27 fun x35 b36=>
ifB (okAll (.rd b36) h27 h27 [⟨3,(.rd b33),h27,h27⟩]) (
p_lenS x35 fun x37=>
p_bin .geq fiGeq x32 x37 fun x38=>
joinC (fun j39=>p_no x38 (j39 (nthV A 0) h27 .free h27) (j39 undefA h27 .free h27)) fun x40 h41 k42 h43=>
joinC (fun j44=>p_no x38 (asNil (
j44 x40 h41 .free h41) x40) (j44 undefA h41 .free h41)) fun x45 h46 k47 h48=>
joinC (fun j49=>p_no x38 (p_faddr 0 x45 fun x54=>
j49 x54 h46 .free h46) (j49 undefA h46 .free h46)) fun x50 h51 k52 h53=>
joinC (fun j55=>p_no x38 (p_load1 x50 h51 fun x60 b61=>
j55 x60 h51 (.rd b61) h51) (j55 undefA h51 .free h51)) fun x56 h57 k58 h59=>
joinC (fun j62=>p_no x38 (j62 (nthV A 0) h57 .free h57) (j62 undefA h57 .free h57)) fun x63 h64 k65 h66=>
joinC (fun j67=>p_no x38 (asNil (
j67 x63 h64 .free h64) x63) (j67 undefA h64 .free h64)) fun x68 h69 k70 h71=>
joinC (fun j72=>p_no x38 (p_faddr 1 x68 fun x77=>
j72 x77 h69 .free h69) (j72 undefA h69 .free h69)) fun x73 h74 k75 h76=>
joinC (fun j78=>p_no x38 (p_load1 x73 h74 fun x83 b84=>
ifB (okAll (.rd b84) h74 h74 [⟨14,k58,h59,h57⟩]) (
j78 x83 h74 (.rd b84) h74) false) (j78 undefA h74 .free h74)) fun x79 h80 k81 h82=>
joinC (fun j85=>p_no x38 (p_idxs x56 x79 fun x90=>
j85 x90 h80 .free h80) (j85 undefA h80 .free h80)) fun x86 h87 k88 h89=>
joinC (fun j91=>p_no x38 (c 155 [(.str [48,49,50,51,52,53,54,55,56,57,97,98,99,100,101,102]),x86] h87 (fun x98 h99=>
j91 x98 h99 .big h87) kp) (j91 undefA h87 .free h87)) fun x92 h93 k94 h95=>
joinC (fun j100=>p_no x38 (p_bin .lss fiLss x92 (vi 0) fun x105=>
j100 x105 h93 .free h93) (j100 undefA h93 .free h93)) fun x101 h102 k103 h104=>
p_pick x38 vT x101 fun x106=>
joinL (fun j107=>p_if x106 (
p_load1 (.ptr 3 0) h102 fun x110 b111=>
p_faddr 4 x7 fun x112=>
p_load1 x112 h102 fun x113 b114=>
c 72 [(nthV A 0),x110,x113] h102 (fun x117 h118=>
j107 [] h118) kp) (j107 [] h102)) fun l108 h109=>
p_faddr 3 x7 fun x119=>
p_load1 x119 h109 fun x120 b121=>
p_gen (.bin .shl (.t 47) (.c (.int .u64 (.ofNat 4)))) [(47,x120)] h109 fun x122 h123 k124=>
asNil (
p_faddr 0 (nthV A 0) fun x125=>
p_load1 x125 h123 fun x126 b127=>
ifB (okAll (.rd b127) h123 h123 [⟨1,(.rd b121),h109,h109⟩]) (
asNil (
p_faddr 1 (nthV A 0) fun x128=>
p_load1 x128 h123 fun x129 b130=>
ifB (okAll (.rd b130) h123 h123 [⟨6,(.rd b127),h123,h123⟩,⟨1,(.rd b121),h109,h109⟩]) (
p_idxs x126 x129 fun x131=>
c 155 [(.str [48,49,50,51,52,53,54,55,56,57,97,98,99,100,101,102]),x131] h123 (fun x134 h135=>
ifB (okAll .big h123 h135 [⟨1,(.rd b121),h109,h109⟩]) (
p_cvi .u64 x134 fun x136=>
p_gen (.bin .or (.t 48) (.t 59)) [(48,x122),(59,x136)] h135 fun x137 h138 k139=>
p_faddr 3 x7 fun x140=>
p_store 1 x140 x137 h138 fun h141 b142=>
asNil (
p_faddr 1 (nthV A 0) fun x143=>
p_load1 x143 h141 fun x144 b145=>
p_add x144 (vi 1) fun x146=>
asNil (
p_faddr 1 (nthV A 0) fun x147=>
p_store 1 x147 x146 h141 fun h148 b149=>
j28 [] h148) (nthV A 0)) (nthV A 0)) false) (fun p132 h133=>ifB (okAll .big h123 h133 [⟨1,(.rd b121),h109,h109⟩]) (
kp p132 h133) false)) false) (nthV A 0)) false) (nthV A 0)) false) (nthV A 0)) (nthV A 0)) fun l29 h30=>
p_add (nthV l22 0) (vi 1) fun x150=>
r21 [x150] h30) [(vi 0)] h16) fun l19 h20=>
c 154 [(nthV A 0)] h20 (fun x153 h154=>
asNil (
p_faddr 0 (nthV A 0) fun x155=>
p_load1 x155 h154 fun x156 b157=>
p_faddr 4 x7 fun x158=>
p_load1 x158 h154 fun x159 b160=>
ifB (okAll (.rd b160) h154 h154 [⟨3,(.rd b157),h154,h154⟩]) (
asNil (
p_faddr 1 (nthV A 0) fun x161=>
p_load1 x161 h154 fun x162 b163=>
ifB (okAll (.rd b163) h154 h154 [⟨5,(.rd b160),h154,h154⟩,⟨3,(.rd b157),h154,h154⟩]) (
asStr (fun s164=>onBnd x162 (lenB s164) fun n165=>onBnd x159 n165 fun n166=>(fun (x167:AV)=>p_faddr 1 x7 fun x168=>
p_store 1 x168 x167 h154 fun h169 b170=>
p_loadN 5 x7 h169 fun x171 b172=>
p_store 5 x0 x171 h169 fun h173 b174=>
p_loadN 5 x0 h173 fun x175 b176=>kr x175 h173) (.str (takeQ (dropC s164 n166) (Nat.sub n165 n166)))) x156) false) (nthV A 0)) false) (nthV A 0)) kp) (nthV A 0)) (nthV A 0)) (.ptr h1.n (nat_lit 0)) (alQ h1 (.cells .own (nat_lit 0) [(vi 0),vS,(vi 0),(.int .u64 (.ofNat 0)),(vi 0)]))) (.agg l5)) (nthV A 0)) (.ptr h.n (nat_lit 0)) (alQ h (.cells .own (nat_lit 0) [(vi 0),vS,(vi 0),(.int .u64 (.ofNat 0)),(vi 0)]))) false
noncomputable def h122:FBody:=fun c D k A h kr kp=>ifB (Nat.beq (lenV A) 1) (
(fun (x0:AV) (h1:AHeap)=>
onFill [(0,1,(.str [58,61])),(1,1,(.str [61,61])),(2,1,(.str [33,61])),(3,1,(.str [60,61])),(4,1,(.str [62,61])),(5,1,(.str [38,38])),(6,1,(.str [124,124]))] [vS,vS,vS,vS,vS,vS,vS] fun l2=>(fun (x3:AV)=>joinL (fun j4=>
loopB k (fun r7 l8 h9=>
p_bin .lss fiLss (nthV l8 0) (vi 7) fun x10=>
joinL (fun j11=>p_if x10 (
j11 [] h9) (j4 [] h9)) fun l12 h13=>
joinL (fun j14=>
p_idxa1 7 1 x3 (nthV l8 0) fun x17=>
asNil (
p_faddr 0 (nthV A 0) fun x18=>
p_load1 x18 h13 fun x19 b20=>
asNil (
p_faddr 1 (nthV A 0) fun x21=>
p_load1 x21 h13 fun x22 b23=>
ifB (okAll (.rd b23) h13 h13 [⟨3,(.rd b20),h13,h13⟩]) (
asStr (fun s24=>onBnd x22 (lenB s24) fun n25=>(fun (x26:AV)=>c 114 [x26,x17] h13 (fun x29 h30=>
p_if x29 (asNil (
p_faddr 1 (nthV A 0) fun x31=>
p_load1 x31 h30 fun x32 b33=>
p_add x32 (vi 2) fun x34=>
asNil (
p_faddr 1 (nthV A 0) fun x35=>
p_store 1 x35 x34 h30 fun h36 b37=>
asNil (
p_faddr 1 (nthV A 0) fun x38=>
p_load1 x38 h36 fun x39 b40=>
p_bin .sub fiSub x39 (vi 2) fun x41=>
onFill [(0,1,(vi 5)),(1,1,x17),(4,1,x41)] [(vi 0),vS,(vi 0),(.int .u64 (.ofNat 0)),(vi 0)] fun l42=>(fun (x43:AV)=>p_store 5 x0 x43 h36 fun h44 b45=>
p_loadN 5 x0 h44 fun x46 b47=>kr x46 h44) (.agg l42)) (nthV A 0)) (nthV A 0)) (nthV A 0)) (j14 [] h30)) kp) (.str (dropC s24 n25))) x19) false) (nthV A 0)) (nthV A 0)) fun l15 h16=>
p_add (nthV l8 0) (vi 1) fun x48=>
r7 [x48] h16) [(vi 0)] h1) fun l5 h6=>
asNil (
p_faddr 0 (nthV A 0) fun x49=>
p_load1 x49 h6 fun x50 b51=>
asNil (
p_faddr 1 (nthV A 0) fun x52=>
p_load1 x52 h6 fun x53 b54=>
ifB (okAll (.rd b54) h6 h6 [⟨3,(.rd b51),h6,h6⟩]) (
p_idxs x50 x53 fun x55=>
c 155 [(.str [43,45,42,47,37,60,62,61,33,40,41,123,125,91,93,44,59]),x55] h6 (fun x58 h59=>
p_bin .lss fiLss x58 (vi 0) fun x60=>
joinL (fun j61=>p_if x60 (
p_load1 (.ptr 3 0) h59 fun x64 b65=>
asNil (
p_faddr 1 (nthV A 0) fun x66=>
p_load1 x66 h59 fun x67 b68=>
ifB (okAll (.rd b68) h59 h59 [⟨1,(.rd b65),h59,h59⟩]) (
c 72 [(nthV A 0),x64,x67] h59 (fun x71 h72=>
j61 [] h72) kp) false) (nthV A 0)) (j61 [] h59)) fun l62 h63=>
asNil (
p_faddr 1 (nthV A 0) fun x73=>
p_load1 x73 h63 fun x74 b75=>
p_add x74 (vi 1) fun x76=>
asNil (
p_faddr 1 (nthV A 0) fun x77=>
p_store 1 x77 x76 h63 fun h78 b79=>
asNil (
p_faddr 0 (nthV A 0) fun x80=>
p_load1 x80 h78 fun x81 b82=>
asNil (
p_faddr 1 (nthV A 0) fun x83=>
p_load1 x83 h78 fun x84 b85=>
ifB (okAll (.rd b85) h78 h78 [⟨3,(.rd b82),h78,h78⟩]) (
p_bin .sub fiSub x84 (vi 1) fun x86=>
asNil (
p_faddr 1 (nthV A 0) fun x87=>
p_load1 x87 h78 fun x88 b89=>
ifB (okAll (.rd b89) h78 h78 [⟨7,(.rd b85),h78,h78⟩,⟨3,(.rd b82),h78,h78⟩]) (
asStr (fun s90=>onBnd x88 (lenB s90) fun n91=>onBnd x86 n91 fun n92=>(fun (x93:AV)=>asNil (
p_faddr 1 (nthV A 0) fun x94=>
p_load1 x94 h78 fun x95 b96=>
ifB (okAll (.rd b96) h78 h78 [⟨13,.free,h78,h78⟩,⟨12,(.rd b89),h78,h78⟩,⟨7,(.rd b85),h78,h78⟩,⟨3,(.rd b82),h78,h78⟩]) (
p_bin .sub fiSub x95 (vi 1) fun x97=>
onFill [(0,1,(vi 5)),(1,1,x93),(4,1,x97)] [(vi 0),vS,(vi 0),(.int .u64 (.ofNat 0)),(vi 0)] fun l98=>(fun (x99:AV)=>p_store 5 x0 x99 h78 fun h100 b101=>
p_loadN 5 x0 h100 fun x102 b103=>kr x102 h100) (.agg l98)) false) (nthV A 0)) (.str (takeQ (dropC s90 n92) (Nat.sub n91 n92)))) x81) false) (nthV A 0)) false) (nthV A 0)) (nthV A 0)) (nthV A 0)) (nthV A 0)) kp) false) (nthV A 0)) (nthV A 0)) (.agg l2)) (.ptr h.n (nat_lit 0)) (alQ h (.cells .own (nat_lit 0) [(vi 0),vS,(vi 0),(.int .u64 (.ofNat 0)),(vi 0)]))) false
noncomputable def h133:FBody:=fun c D k A h kr kp=>ifB (Nat.beq (lenV A) 2) (
c 134 [(nthV A 0),(nthV A 1)] h (fun x2 h3=>
p_bin .geq fiGeq x2 (vi 0) fun x4=>
kr x4 h3) kp) false
noncomputable def h134:FBody:=fun c D k A h kr kp=>ifB (Nat.beq (lenV A) 2) (
p_lenL (nthV A 0) fun x0=>
joinL (fun j1=>
loopB k (fun r4 l5 h6=>
p_bin .lss fiLss (nthV l5 1) x0 fun x7=>
joinL (fun j8=>p_if x7 (
j8 [] h6) (j1 [(nthV l5 0)] h6)) fun l9 h10=>
joinL (fun j11=>
p_iaddr 1 (nthV A 0) (nthV l5 1) fun x14=>
p_load1 x14 h10 fun x15 b16=>
p_eq (nthV A 1) x15 fun x17=>
p_if x17 (kr (nthV l5 1) h10) (j11 [(nthV l5 0)] h10)) fun l12 h13=>
p_add (nthV l5 1) (vi 1) fun x18=>
r4 [(nthV l12 0),x18] h13) [(vi 0),(vi 0)] h) fun l2 h3=>
kr (.int .i64 (.negSucc 0)) h3) false
noncomputable def h135:FBody:=fun c D k A h kr kp=>ifB (Nat.beq (lenV A) 2) (
onFill [(0,1,(nthV A 1))] [vS] fun l0=>ifB (flatsQ l0) ((fun (x1:AV) (h2:AHeap)=>
c 86 [(nthV A 0),x1] h2 (fun x5 h6=>
p_not x5 fun x7=>
joinL (fun j8=>p_if x7 (
kr vF h6) (j8 [vF] h6)) fun l9 h10=>
asNil (
p_faddr 0 (nthV A 0) fun x11=>
p_load1 x11 h10 fun x12 b13=>
p_gen (.slc 5 (.t 14) (some (.c (vi 1))) none none) [(14,x12)] h10 fun x14 h15 k16=>
asNil (
p_faddr 0 (nthV A 0) fun x17=>
p_store 1 x17 x14 h15 fun h18 b19=>
kr vT h18) (nthV A 0)) (nthV A 0)) kp) (.slice h.n (nat_lit 0) 1 1 true) (alQ h (.cells .own 1 l0))) false) false
noncomputable def h136:FBody:=fun c D k A h kr kp=>ifB (Nat.beq (lenV A) 2) (
(fun (x0:AV) (h1:AHeap)=>
onFill [(0,1,(nthV A 1))] [vS] fun l2=>ifB (flatsQ l2) ((fun (x3:AV) (h4:AHeap)=>
c 86 [(nthV A 0),x3] h4 (fun x7 h8=>
p_not x7 fun x9=>
joinL (fun j10=>p_if x9 (
c 85 [(nthV A 0)] h8 (fun x15 h16=>
j10 [] h16) kp) (j10 [] h8)) fun l11 h12=>
asNil (
p_faddr 2 (nthV A 0) fun x17=>
p_load1 x17 h12 fun x18 b19=>
p_eq x18 (vi 16) fun x20=>
joinL (fun j21=>p_if x20 (
p_load1 (.ptr 4 0) h12 fun x24 b25=>
c 48 [(nthV A 0)] h12 (fun x28 h29=>
ifB (okAll .big h12 h29 [⟨0,(.rd b25),h12,h12⟩]) (
p_fld x28 4 fun x30=>
onFill [(0,1,x24),(1,1,x30)] [.nilIface,(vi 0)] fun l31=>(fun (x32:AV)=>onFill [(0,2,x32)] [.nilIface,(vi 0)] fun l33=>(fun (x34:AV)=>(fun (x35:AV)=>asIf (fun t36 x37=>kp (.iface t36 x37) h29) x35) (.iface 137 x34)) (.agg l33)) (.agg l31)) false) (fun p26 h27=>ifB (okAll .big h12 h27 [⟨0,(.rd b25),h12,h12⟩]) (
kp p26 h27) false)) (j21 [] h12)) fun l22 h23=>
asNil (
p_faddr 2 (nthV A 0) fun x38=>
p_load1 x38 h23 fun x39 b40=>
p_add x39 (vi 1) fun x41=>
asNil (
p_faddr 2 (nthV A 0) fun x42=>
p_store 1 x42 x41 h23 fun h43 b44=>
c 92 [(nthV A 0),(nthV A 1)] h43 (fun x47 h48=>
p_store 5 x0 x47 h48 fun h49 b50=>
p_loadN 5 x0 h49 fun x51 b52=>kr x51 h49) kp) (nthV A 0)) (nthV A 0)) (nthV A 0)) kp) (.slice h1.n (nat_lit 0) 1 1 true) (alQ h1 (.cells .own 1 l2))) false) (.ptr h.n (nat_lit 0)) (alQ h (.cells .own (nat_lit 0) [(vi 0),vS,(vi 0),(.int .u64 (.ofNat 0)),(vi 0)]))) false
noncomputable def h137:FBody:=fun c D k A h kr kp=>ifB (Nat.beq (lenV A) 1) (
(fun (x0:AV) (h1:AHeap)=>
c 48 [(nthV A 0)] h1 (fun x4 h5=>
p_fld x4 4 fun x6=>
joinL (fun j7=>
c 135 [(nthV A 0),(.str [105,102])] h5 (fun x12 h13=>
p_if x12 (c 59 [(nthV A 0)] h13 (fun x16 h17=>
onFill [(0,9,x16)] [(vi 0),(vi 0),vS,(vi 0),(vi 0),(vi 0),(vi 0),(.int .u64 (.ofNat 0)),.nilSlice] fun l18=>ifB (flatsQ l18) ((fun (x19:AV) (h20:AHeap)=>
onFill [(0,1,(vi 21)),(1,1,x6),(8,1,x19)] [(vi 0),(vi 0),vS,(vi 0),(vi 0),(vi 0),(vi 0),(.int .u64 (.ofNat 0)),.nilSlice] fun l21=>(fun (x22:AV)=>(fun (x23:AV) (h24:AHeap)=>
p_store 9 x23 x22 h24 fun h25 b26=>
p_faddr 8 x23 fun x27=>
p_load1 x27 h25 fun x28 b29=>
c 91 [(nthV A 0)] h25 (fun x32 h33=>
ifB (okAll .big h25 h33 [⟨1,(.rd b29),h25,h25⟩]) (
onFill [(0,9,x32)] [(vi 0),(vi 0),vS,(vi 0),(vi 0),(vi 0),(vi 0),(.int .u64 (.ofNat 0)),.nilSlice] fun l34=>ifB (flatsQ l34) ((fun (x35:AV) (h36:AHeap)=>
ifB (okAll .new h33 h36 [⟨1,(.rd b29),h25,h25⟩]) (
p_append .own 9 96 x28 x35 h36 fun x37 h38=>
p_faddr 8 x23 fun x39=>
p_store 1 x39 x37 h38 fun h40 b41=>
c 135 [(nthV A 0),(.str [101,108,115,101])] h40 (fun x44 h45=>
joinL (fun j46=>p_if x44 (
p_faddr 8 x23 fun x49=>
p_load1 x49 h45 fun x50 b51=>
c 91 [(nthV A 0)] h45 (fun x54 h55=>
ifB (okAll .big h45 h55 [⟨1,(.rd b51),h45,h45⟩]) (
onFill [(0,9,x54)] [(vi 0),(vi 0),vS,(vi 0),(vi 0),(vi 0),(vi 0),(.int .u64 (.ofNat 0)),.nilSlice] fun l56=>ifB (flatsQ l56) ((fun (x57:AV) (h58:AHeap)=>
ifB (okAll .new h55 h58 [⟨1,(.rd b51),h45,h45⟩]) (
p_append .own 9 96 x50 x57 h58 fun x59 h60=>
p_faddr 8 x23 fun x61=>
p_store 1 x61 x59 h60 fun h62 b63=>
j46 [] h62) false) (.slice h55.n (nat_lit 0) 1 1 true) (alQ h55 (.cells .own 9 l56))) false) false) (fun p52 h53=>ifB (okAll .big h45 h53 [⟨1,(.rd b51),h45,h45⟩]) (
kp p52 h53) false)) (j46 [] h45)) fun l47 h48=>
p_loadN 9 x23 h48 fun x64 b65=>
p_store 9 x0 x64 h48 fun h66 b67=>
p_loadN 9 x0 h66 fun x68 b69=>kr x68 h66) kp) false) (.slice h33.n (nat_lit 0) 1 1 true) (alQ h33 (.cells .own 9 l34))) false) false) (fun p30 h31=>ifB (okAll .big h25 h31 [⟨1,(.rd b29),h25,h25⟩]) (
kp p30 h31) false)) (.ptr h20.n (nat_lit 0)) (alQ h20 (.cells .own (nat_lit 0) [(vi 0),(vi 0),vS,(vi 0),(vi 0),(vi 0),(vi 0),(.int .u64 (.ofNat 0)),.nilSlice]))) (.agg l21)) (.slice h17.n (nat_lit 0) 1 1 true) (alQ h17 (.cells .own 9 l18))) false) kp) (c 135 [(nthV A 0),(.str [119,104,105,108,101])] h13 (fun x72 h73=>
p_if x72 (c 59 [(nthV A 0)] h73 (fun x76 h77=>
onFill [(0,9,x76)] [(vi 0),(vi 0),vS,(vi 0),(vi 0),(vi 0),(vi 0),(.int .u64 (.ofNat 0)),.nilSlice] fun l78=>ifB (flatsQ l78) ((fun (x79:AV) (h80:AHeap)=>
onFill [(0,1,(vi 22)),(1,1,x6),(8,1,x79)] [(vi 0),(vi 0),vS,(vi 0),(vi 0),(vi 0),(vi 0),(.int .u64 (.ofNat 0)),.nilSlice] fun l81=>(fun (x82:AV)=>(fun (x83:AV) (h84:AHeap)=>
p_store 9 x83 x82 h84 fun h85 b86=>
p_faddr 8 x83 fun x87=>
p_load1 x87 h85 fun x88 b89=>
c 91 [(nthV A 0)] h85 (fun x92 h93=>
ifB (okAll .big h85 h93 [⟨1,(.rd b89),h85,h85⟩]) (
onFill [(0,9,x92)] [(vi 0),(vi 0),vS,(vi 0),(vi 0),(vi 0),(vi 0),(.int .u64 (.ofNat 0)),.nilSlice] fun l94=>ifB (flatsQ l94) ((fun (x95:AV) (h96:AHeap)=>
ifB (okAll .new h93 h96 [⟨1,(.rd b89),h85,h85⟩]) (
p_append .own 9 96 x88 x95 h96 fun x97 h98=>
p_faddr 8 x83 fun x99=>
p_store 1 x99 x97 h98 fun h100 b101=>
p_loadN 9 x83 h100 fun x102 b103=>
p_store 9 x0 x102 h100 fun h104 b105=>
p_loadN 9 x0 h104 fun x106 b107=>kr x106 h104) false) (.slice h93.n (nat_lit 0) 1 1 true) (alQ h93 (.cells .own 9 l94))) false) false) (fun p90 h91=>ifB (okAll .big h85 h91 [⟨1,(.rd b89),h85,h85⟩]) (
kp p90 h91) false)) (.ptr h80.n (nat_lit 0)) (alQ h80 (.cells .own (nat_lit 0) [(vi 0),(vi 0),vS,(vi 0),(vi 0),(vi 0),(vi 0),(.int .u64 (.ofNat 0)),.nilSlice]))) (.agg l81)) (.slice h77.n (nat_lit 0) 1 1 true) (alQ h77 (.cells .own 9 l78))) false) kp) (j7 [] h73)) kp)) kp) fun l8 h9=>
c 163 [(nthV A 0)] h9 (fun x110 h111=>
(fun (x112:AV) (h113:AHeap)=>
p_store 9 x112 x110 h113 fun h114 b115=>
c 92 [(nthV A 0),(.str [59])] h114 (fun x118 h119=>
p_loadN 9 x112 h119 fun x120 b121=>
p_store 9 x0 x120 h119 fun h122 b123=>
p_loadN 9 x0 h122 fun x124 b125=>kr x124 h122) kp) (.ptr h111.n (nat_lit 0)) (alQ h111 (.cells .own (nat_lit 0) [(vi 0),(vi 0),vS,(vi 0),(vi 0),(vi 0),(vi 0),(.int .u64 (.ofNat 0)),.nilSlice]))) kp) kp) (.ptr h.n (nat_lit 0)) (alQ h (.cells .own (nat_lit 0) [(vi 0),(vi 0),vS,(vi 0),(vi 0),(vi 0),(vi 0),(.int .u64 (.ofNat 0)),.nilSlice]))) false
noncomputable def h138:FBody:=fun c D k A h kr kp=>ifB (Nat.beq (lenV A) 2) (
c 92 [(nthV A 0),(nthV A 1)] h (fun x2 h3=>
asNil (
p_faddr 2 (nthV A 0) fun x4=>
p_load1 x4 h3 fun x5 b6=>
p_bin .sub fiSub x5 (vi 1) fun x7=>
asNil (
p_faddr 2 (nthV A 0) fun x8=>
p_store 1 x8 x7 h3 fun h9 b10=>
kr undefA h9) (nthV A 0)) (nthV A 0)) kp) false
noncomputable def h139:FBody:=fun c D k A h kr kp=>ifB (Nat.beq (lenV A) 2) (
p_box (nthV A 0) h fun x0 h1=>
p_loadN 0 x0 h1 fun x2 b3=>
p_bin .geq fiGeq (nthV A 1) (vi 1) fun x4=>
joinV (fun j5=>p_yes x4 (j5 (nthV A 1) h1) (j5 undefA h1)) fun x6 h7=>
joinV (fun j8=>p_yes x4 (p_bin .leq fiLeq x6 (vi 3) fun x11=>
j8 x11 h7) (j8 undefA h7)) fun x9 h10=>
p_pick x4 x9 vF fun x12=>
c 94 [x2,x12] h10 (fun x15 h16=>
kr undefA h16) kp) false
noncomputable def h140:FBody:=fun c D k A h kr kp=>ifB (Nat.beq (lenV A) 2) (
p_box (nthV A 0) h fun x0 h1=>
p_box (nthV A 1) h1 fun x2 h3=>
p_loadN 0 x0 h3 fun x4 b5=>
p_faddr 0 x2 fun x6=>
p_load1 x6 h3 fun x7 b8=>
p_eq x7 (vi 9) fun x9=>
c 94 [x4,x9] h3 (fun x12 h13=>
p_loadN 0 x0 h13 fun x14 b15=>
p_loadN 9 x2 h13 fun x16 b17=>
onFill [] [(vi 0),(vi 0),vS,(vi 0),(vi 0),(vi 0),(vi 0),(.int .u64 (.ofNat 0)),.nilSlice] fun l18=>(fun (x19:AV)=>c 95 [x14,x16,x19] h13 (fun x22 h23=>
p_faddr 8 x2 fun x24=>
p_load1 x24 h23 fun x25 b26=>
p_lenL x25 fun x27=>
loopB k (fun r28 l29 h30=>
p_bin .lss fiLss (nthV l29 0) x27 fun x31=>
joinL (fun j32=>p_if x31 (
j32 [] h30) (kr undefA h30)) fun l33 h34=>
joinL (fun j35=>
p_iaddr 9 x25 (nthV l29 0) fun x38=>
p_loadN 9 x38 h34 fun x39 b40=>
(fun (x41:AV) (h42:AHeap)=>
p_store 9 x41 x39 h42 fun h43 b44=>
p_loadN 0 x0 h43 fun x45 b46=>
p_loadN 9 x41 h43 fun x47 b48=>
c 164 [x45,x47] h43 (fun x51 h52=>
j35 [] h52) kp) (.ptr h34.n (nat_lit 0)) (alQ h34 (.cells .own (nat_lit 0) [(vi 0),(vi 0),vS,(vi 0),(vi 0),(vi 0),(vi 0),(.int .u64 (.ofNat 0)),.nilSlice]))) fun l36 h37=>
p_add (nthV l29 0) (vi 1) fun x53=>
r28 [x53] h37) [(vi 0)] h23) kp) (.agg l18)) kp) false
noncomputable def h142:FBody:=fun c D k A h kr kp=>ifB (Nat.beq (lenV A) 2) (
p_eq (nthV A 1) (vi 10) fun x0=>
joinL (fun j1=>p_if x0 (
p_bin .lss fiLss (nthV A 0) (.int .u64 (.ofNat 100)) fun x4=>
joinL (fun j5=>p_if x4 (
p_cvi .i64 (nthV A 0) fun x8=>
c 166 [x8] h (fun x11 h12=>
kr x11 h12) kp) (j5 [vS] h)) fun l6 h7=>
(fun (x13:AV) (h14:AHeap)=>
c 167 [(nthV A 0)] h14 (fun x17 h18=>
p_gen (.slarr 24 1 (.t 5) none (some (.t 18)) none) [(5,x13),(18,x17)] h18 fun x19 h20 k21=>
c 168 [x19,(nthV A 0)] h20 (fun x24 h25=>
p_gen (.slarr 24 1 (.t 5) none (some (.t 22)) none) [(5,x13),(22,x17)] h25 fun x26 h27 k28=>
p_gen (.cvbs (.t 23)) [(23,x26)] h27 fun x29 h30 k31=>
kr x29 h30) kp) kp) (.ptr h7.n (nat_lit 0)) (alQ h7 (.cells .own (nat_lit 0) [(.int .u8 (.ofNat 0)),(.int .u8 (.ofNat 0)),(.int .u8 (.ofNat 0)),(.int .u8 (.ofNat 0)),(.int .u8 (.ofNat 0)),(.int .u8 (.ofNat 0)),(.int .u8 (.ofNat 0)),(.int .u8 (.ofNat 0)),(.int .u8 (.ofNat 0)),(.int .u8 (.ofNat 0)),(.int .u8 (.ofNat 0)),(.int .u8 (.ofNat 0)),(.int .u8 (.ofNat 0)),(.int .u8 (.ofNat 0)),(.int .u8 (.ofNat 0)),(.int .u8 (.ofNat 0)),(.int .u8 (.ofNat 0)),(.int .u8 (.ofNat 0)),(.int .u8 (.ofNat 0)),(.int .u8 (.ofNat 0)),(.int .u8 (.ofNat 0)),(.int .u8 (.ofNat 0)),(.int .u8 (.ofNat 0)),(.int .u8 (.ofNat 0))]))) (j1 [vS] h)) fun l2 h3=>
c 169 [.nilSlice,(nthV A 0),(nthV A 1),vF,vF] h3 (fun x34 h35=>
p_ext x34 0 fun x36=>
p_ext x34 1 fun x37=>
kr x37 h35) kp) false
noncomputable def h144:FBody:=fun c D k A h kr kp=>ifB (Nat.beq (lenV A) 2) (
c 170 [(nthV A 0)] h (fun x2 h3=>
asNil (
p_faddr 1 (nthV A 0) fun x4=>
p_load1 x4 h3 fun x5 b6=>
p_append (.tag 5) 1 1 x5 (nthV A 1) h3 fun x7 h8=>
asNil (
p_faddr 1 (nthV A 0) fun x9=>
p_store 1 x9 x7 h8 fun h10 b11=>
p_lenS (nthV A 1) fun x12=>
kr (.tuple [x12,.nilIface]) h10) (nthV A 0)) (nthV A 0)) kp) false
noncomputable def h146:FBody:=fun c D k A h kr kp=>ifB (Nat.beq (lenV A) 1) (
(fun (x0:AV) (h1:AHeap)=>
(fun (x2:AV)=>onFill [(0,1,(.str [61,61])),(1,1,(.str [33,61])),(2,1,(.str [60])),(3,1,(.str [60,61])),(4,1,(.str [62])),(5,1,(.str [62,61]))] [vS,vS,vS,vS,vS,vS] fun l3=>ifB (flatsQ l3) ((fun (x4:AV) (h5:AHeap)=>
c 104 [(nthV A 0),x2,vF,x4] h5 (fun x8 h9=>
p_store 9 x0 x8 h9 fun h10 b11=>
p_loadN 9 x0 h10 fun x12 b13=>kr x12 h10) kp) (.slice h1.n (nat_lit 0) 6 6 true) (alQ h1 (.cells .own 1 l3))) false) (.func (.func 172) [(nthV A 0)] [])) (.ptr h.n (nat_lit 0)) (alQ h (.cells .own (nat_lit 0) [(vi 0),(vi 0),vS,(vi 0),(vi 0),(vi 0),(vi 0),(.int .u64 (.ofNat 0)),.nilSlice]))) false
noncomputable def h149:FBody:=fun c D k A h kr kp=>ifB (Nat.beq (lenV A) 2) (
p_box (nthV A 1) h fun x0 h1=>
p_gen (.mkmap) [] h1 fun x2 h3 k4=>
p_gen (.mapupd (.one .int) (.t 5) (.c (vi 14)) (.c (.str [108,111,99,107]))) [(5,x2)] h3 fun x5 h6 k7=>
p_gen (.mapupd (.one .int) (.t 5) (.c (vi 15)) (.c (.str [117,110,108,111,99,107]))) [(5,x2)] h6 fun x8 h9 k10=>
p_gen (.mapupd (.one .int) (.t 5) (.c (vi 16)) (.c (.str [115,101,110,100]))) [(5,x2)] h9 fun x11 h12 k13=>
p_gen (.mapupd (.one .int) (.t 5) (.c (vi 17)) (.c (.str [114,101,99,118]))) [(5,x2)] h12 fun x14 h15 k16=>
p_gen (.mapupd (.one .int) (.t 5) (.c (vi 18)) (.c (.str [97,100,100]))) [(5,x2)] h15 fun x17 h18 k19=>
p_gen (.mapupd (.one .int) (.t 5) (.c (vi 19)) (.c (.str [112,117,116]))) [(5,x2)] h18 fun x20 h21 k22=>
p_gen (.mapupd (.one .int) (.t 5) (.c (vi 20)) (.c (.str [103,101,116]))) [(5,x2)] h21 fun x23 h24 k25=>
p_faddr 0 x0 fun x26=>
p_load1 x26 h24 fun x27 b28=>
p_gen (.lookup (.one .int) vS (.t 6) (.t 8) false) [(6,x2),(8,x27)] h24 fun x29 h30 k31=>
p_faddr 0 x0 fun x32=>
p_load1 x32 h30 fun x33 b34=>
p_eq x33 (vi 10) fun x35=>
p_if x35 (p_faddr 8 x0 fun x36=>
p_load1 x36 h30 fun x37 b38=>
p_iaddr 9 x37 (vi 0) fun x39=>
p_loadN 9 x39 h30 fun x40 b41=>
c 58 [x40] h30 (fun x50 h51=>
p_faddr 8 x0 fun x52=>
p_load1 x52 h51 fun x53 b54=>
ifB (okAll (.rd b54) h51 h51 [⟨5,.big,h30,h51⟩,⟨4,(.rd b41),h30,h30⟩,⟨2,(.rd b38),h30,h30⟩]) (
p_iaddr 9 x53 (vi 1) fun x55=>
p_loadN 9 x55 h51 fun x56 b57=>
ifB (okAll (.rd b57) h51 h51 [⟨5,.big,h30,h51⟩,⟨4,(.rd b41),h30,h30⟩,⟨2,(.rd b38),h30,h30⟩]) (
c 58 [x56] h51 (fun x60 h61=>
onFill [(0,1,x50),(1,1,(.str [32,61,32])),(2,1,x60),(3,1,(.str [59]))] [vS,vS,vS,vS] fun l62=>ifB (flatsQ l62) ((fun (x63:AV) (h64:AHeap)=>
c 107 [(nthV A 0),x63] h64 (fun x67 h68=>
kr undefA h68) kp) (.slice h61.n (nat_lit 0) 4 4 true) (alQ h61 (.cells .own 1 l62))) false) kp) false) false) (fun p42 h43=>p_faddr 8 x0 fun x44=>
p_load1 x44 h43 fun x45 b46=>
ifB (okAll (.rd b46) h43 h43 [⟨5,.big,h30,h43⟩,⟨4,(.rd b41),h30,h30⟩,⟨2,(.rd b38),h30,h30⟩]) (
p_iaddr 9 x45 (vi 1) fun x47=>
p_loadN 9 x47 h43 fun x48 b49=>
ifB (okAll (.rd b49) h43 h43 [⟨5,.big,h30,h43⟩,⟨4,(.rd b41),h30,h30⟩,⟨2,(.rd b38),h30,h30⟩]) (
kp p42 h43) false) false)) (p_eq x33 (vi 11) fun x69=>
p_if x69 (p_faddr 2 x0 fun x70=>
p_load1 x70 h30 fun x71 b72=>
p_faddr 8 x0 fun x73=>
p_load1 x73 h30 fun x74 b75=>
ifB (okAll (.rd b75) h30 h30 [⟨2,(.rd b72),h30,h30⟩]) (
p_iaddr 9 x74 (vi 0) fun x76=>
p_loadN 9 x76 h30 fun x77 b78=>
ifB (okAll (.rd b78) h30 h30 [⟨2,(.rd b72),h30,h30⟩]) (
c 58 [x77] h30 (fun x81 h82=>
ifB (okAll .big h30 h82 [⟨2,(.rd b72),h30,h30⟩]) (
onFill [(0,1,x71),(1,1,(.str [32,58,61,32])),(2,1,x81),(3,1,(.str [59]))] [vS,vS,vS,vS] fun l83=>ifB (flatsQ l83) ((fun (x84:AV) (h85:AHeap)=>
c 107 [(nthV A 0),x84] h85 (fun x88 h89=>
kr undefA h89) kp) (.slice h82.n (nat_lit 0) 4 4 true) (alQ h82 (.cells .own 1 l83))) false) false) (fun p79 h80=>ifB (okAll .big h30 h80 [⟨2,(.rd b72),h30,h30⟩]) (
kp p79 h80) false)) false) false) (p_eq x33 (vi 13) fun x90=>
p_if x90 (p_faddr 2 x0 fun x91=>
p_load1 x91 h30 fun x92 b93=>
p_faddr 8 x0 fun x94=>
p_load1 x94 h30 fun x95 b96=>
ifB (okAll (.rd b96) h30 h30 [⟨2,(.rd b93),h30,h30⟩]) (
c 173 [x95] h30 (fun x99 h100=>
ifB (okAll .big h30 h100 [⟨2,(.rd b93),h30,h30⟩]) (
onFill [(0,1,x92),(1,1,(.str [40])),(2,1,x99),(3,1,(.str [41,59]))] [vS,vS,vS,vS] fun l101=>ifB (flatsQ l101) ((fun (x102:AV) (h103:AHeap)=>
c 107 [(nthV A 0),x102] h103 (fun x106 h107=>
kr undefA h107) kp) (.slice h100.n (nat_lit 0) 4 4 true) (alQ h100 (.cells .own 1 l101))) false) false) (fun p97 h98=>ifB (okAll .big h30 h98 [⟨2,(.rd b93),h30,h30⟩]) (
kp p97 h98) false)) false) (p_eq x33 (vi 12) fun x108=>
p_if x108 (p_faddr 2 x0 fun x109=>
p_load1 x109 h30 fun x110 b111=>
p_faddr 8 x0 fun x112=>
p_load1 x112 h30 fun x113 b114=>
ifB (okAll (.rd b114) h30 h30 [⟨2,(.rd b111),h30,h30⟩]) (
c 173 [x113] h30 (fun x117 h118=>
ifB (okAll .big h30 h118 [⟨2,(.rd b111),h30,h30⟩]) (
onFill [(0,1,(.str [103,111,32])),(1,1,x110),(2,1,(.str [40])),(3,1,x117),(4,1,(.str [41,59]))] [vS,vS,vS,vS,vS] fun l119=>ifB (flatsQ l119) ((fun (x120:AV) (h121:AHeap)=>
c 107 [(nthV A 0),x120] h121 (fun x124 h125=>
kr undefA h125) kp) (.slice h118.n (nat_lit 0) 5 5 true) (alQ h118 (.cells .own 1 l119))) false) false) (fun p115 h116=>ifB (okAll .big h30 h116 [⟨2,(.rd b111),h30,h30⟩]) (
kp p115 h116) false)) false) (p_eq x33 (vi 23) fun x126=>
p_if x126 (onFill [(0,1,(.str [114,101,116,117,114,110,59]))] [vS] fun l127=>ifB (flatsQ l127) ((fun (x128:AV) (h129:AHeap)=>
c 107 [(nthV A 0),x128] h129 (fun x132 h133=>
kr undefA h133) kp) (.slice h30.n (nat_lit 0) 1 1 true) (alQ h30 (.cells .own 1 l127))) false) (p_eq x33 (vi 24) fun x134=>
p_if x134 (p_faddr 8 x0 fun x135=>
p_load1 x135 h30 fun x136 b137=>
p_iaddr 9 x136 (vi 0) fun x138=>
p_loadN 9 x138 h30 fun x139 b140=>
c 58 [x139] h30 (fun x143 h144=>
onFill [(0,1,(.str [102,97,105,108,32])),(1,1,x143),(2,1,(.str [59]))] [vS,vS,vS] fun l145=>ifB (flatsQ l145) ((fun (x146:AV) (h147:AHeap)=>
c 107 [(nthV A 0),x146] h147 (fun x150 h151=>
kr undefA h151) kp) (.slice h144.n (nat_lit 0) 3 3 true) (alQ h144 (.cells .own 1 l145))) false) kp) (p_eq x33 (vi 22) fun x152=>
p_if x152 (p_faddr 8 x0 fun x153=>
p_load1 x153 h30 fun x154 b155=>
p_iaddr 9 x154 (vi 0) fun x156=>
p_loadN 9 x156 h30 fun x157 b158=>
c 58 [x157] h30 (fun x161 h162=>
onFill [(0,1,(.str [119,104,105,108,101,32])),(1,1,x161),(2,1,(.str [32,123]))] [vS,vS,vS] fun l163=>ifB (flatsQ l163) ((fun (x164:AV) (h165:AHeap)=>
c 107 [(nthV A 0),x164] h165 (fun x168 h169=>
p_faddr 8 x0 fun x170=>
p_load1 x170 h169 fun x171 b172=>
p_iaddr 9 x171 (vi 1) fun x173=>
p_loadN 9 x173 h169 fun x174 b175=>
c 110 [(nthV A 0),x174] h169 (fun x178 h179=>
onFill [(0,1,(.str [125]))] [vS] fun l180=>ifB (flatsQ l180) ((fun (x181:AV) (h182:AHeap)=>
c 107 [(nthV A 0),x181] h182 (fun x185 h186=>
kr undefA h186) kp) (.slice h179.n (nat_lit 0) 1 1 true) (alQ h179 (.cells .own 1 l180))) false) kp) kp) (.slice h162.n (nat_lit 0) 3 3 true) (alQ h162 (.cells .own 1 l163))) false) kp) (p_eq x33 (vi 21) fun x187=>
p_if x187 (p_faddr 8 x0 fun x188=>
p_load1 x188 h30 fun x189 b190=>
p_iaddr 9 x189 (vi 0) fun x191=>
p_loadN 9 x191 h30 fun x192 b193=>
c 58 [x192] h30 (fun x196 h197=>
onFill [(0,1,(.str [105,102,32])),(1,1,x196),(2,1,(.str [32,123]))] [vS,vS,vS] fun l198=>ifB (flatsQ l198) ((fun (x199:AV) (h200:AHeap)=>
c 107 [(nthV A 0),x199] h200 (fun x203 h204=>
p_faddr 8 x0 fun x205=>
p_load1 x205 h204 fun x206 b207=>
p_iaddr 9 x206 (vi 1) fun x208=>
p_loadN 9 x208 h204 fun x209 b210=>
c 110 [(nthV A 0),x209] h204 (fun x213 h214=>
p_faddr 8 x0 fun x215=>
p_load1 x215 h214 fun x216 b217=>
p_lenL x216 fun x218=>
p_eq x218 (vi 3) fun x219=>
joinL (fun j220=>p_if x219 (
onFill [(0,1,(.str [125,32,101,108,115,101,32,123]))] [vS] fun l223=>ifB (flatsQ l223) ((fun (x224:AV) (h225:AHeap)=>
c 107 [(nthV A 0),x224] h225 (fun x228 h229=>
p_faddr 8 x0 fun x230=>
p_load1 x230 h229 fun x231 b232=>
p_iaddr 9 x231 (vi 2) fun x233=>
p_loadN 9 x233 h229 fun x234 b235=>
c 110 [(nthV A 0),x234] h229 (fun x238 h239=>
j220 [] h239) kp) kp) (.slice h214.n (nat_lit 0) 1 1 true) (alQ h214 (.cells .own 1 l223))) false) (j220 [] h214)) fun l221 h222=>
onFill [(0,1,(.str [125]))] [vS] fun l240=>ifB (flatsQ l240) ((fun (x241:AV) (h242:AHeap)=>
c 107 [(nthV A 0),x241] h242 (fun x245 h246=>
kr undefA h246) kp) (.slice h222.n (nat_lit 0) 1 1 true) (alQ h222 (.cells .own 1 l240))) false) kp) kp) (.slice h197.n (nat_lit 0) 3 3 true) (alQ h197 (.cells .own 1 l198))) false) kp) (p_eq x33 (vi 14) fun x247=>
joinL (fun j248=>p_if x247 (
j248 [x247] h30) (p_eq x33 (vi 15) fun x251=>
j248 [x251] h30)) fun l249 h250=>
p_if (nthV l249 0) (p_faddr 2 x0 fun x252=>
p_load1 x252 h250 fun x253 b254=>
onFill [(0,1,x29),(1,1,(.str [32])),(2,1,x253),(3,1,(.str [59]))] [vS,vS,vS,vS] fun l255=>ifB (flatsQ l255) ((fun (x256:AV) (h257:AHeap)=>
c 107 [(nthV A 0),x256] h257 (fun x260 h261=>
kr undefA h261) kp) (.slice h250.n (nat_lit 0) 4 4 true) (alQ h250 (.cells .own 1 l255))) false) (p_faddr 2 x0 fun x262=>
p_load1 x262 h250 fun x263 b264=>
p_faddr 8 x0 fun x265=>
p_load1 x265 h250 fun x266 b267=>
ifB (okAll (.rd b267) h250 h250 [⟨3,(.rd b264),h250,h250⟩]) (
p_iaddr 9 x266 (vi 0) fun x268=>
p_loadN 9 x268 h250 fun x269 b270=>
ifB (okAll (.rd b270) h250 h250 [⟨3,(.rd b264),h250,h250⟩]) (
c 58 [x269] h250 (fun x273 h274=>
ifB (okAll .big h250 h274 [⟨3,(.rd b264),h250,h250⟩]) (
onFill [(0,1,x29),(1,1,(.str [32])),(2,1,x263),(3,1,(.str [44,32])),(4,1,x273),(5,1,(.str [59]))] [vS,vS,vS,vS,vS,vS] fun l275=>ifB (flatsQ l275) ((fun (x276:AV) (h277:AHeap)=>
c 107 [(nthV A 0),x276] h277 (fun x280 h281=>
kr undefA h281) kp) (.slice h274.n (nat_lit 0) 6 6 true) (alQ h274 (.cells .own 1 l275))) false) false) (fun p271 h272=>ifB (okAll .big h250 h272 [⟨3,(.rd b264),h250,h250⟩]) (
kp p271 h272) false)) false) false)))))))))) false
noncomputable def h151:FBody:=fun c D k A h kr kp=>ifB (Nat.beq (lenV A) 2) (
p_lenS (nthV A 0) fun x0=>
p_lenS (nthV A 1) fun x1=>
p_bin .geq fiGeq x0 x1 fun x2=>
joinV (fun j3=>p_yes x2 (j3 (nthV A 0) h) (j3 undefA h)) fun x4 h5=>
joinV (fun j6=>p_yes x2 (j6 (nthV A 1) h5) (j6 undefA h5)) fun x7 h8=>
joinV (fun j9=>p_yes x2 (p_lenS x7 fun x12=>
j9 x12 h8) (j9 undefA h8)) fun x10 h11=>
joinV (fun j13=>p_yes x2 (asStr (fun s16=>onBnd x10 (lenB s16) fun n17=>(fun (x18:AV)=>j13 x18 h11) (.str (takeQ (dropC s16 0) (Nat.sub n17 0)))) x4) (j13 undefA h11)) fun x14 h15=>
joinV (fun j19=>p_yes x2 (j19 (nthV A 1) h15) (j19 undefA h15)) fun x20 h21=>
joinV (fun j22=>p_yes x2 (p_eq x14 x20 fun x25=>
j22 x25 h21) (j22 undefA h21)) fun x23 h24=>
p_pick x2 x23 vF fun x26=>
kr x26 h24) false
noncomputable def h152:FBody:=fun c D k A h kr kp=>ifB (Nat.beq (lenV A) 1) (
c 117 [(nthV A 0)] h (fun x2 h3=>
joinV (fun j4=>p_no x2 (j4 (nthV A 0) h3) (j4 undefA h3)) fun x5 h6=>
joinV (fun j7=>p_no x2 (c 119 [x5] h6 (fun x12 h13=>
j7 x12 h13) kp) (j7 undefA h6)) fun x8 h9=>
p_pick x2 vT x8 fun x14=>
kr x14 h9) kp) false
noncomputable def h153:FBody:=fun c D k A h kr kp=>ifB (Nat.beq (lenV A) 1) (
onFill [(0,1,(.str [97,100,100])),(1,1,(.str [97,116,111,109,105,99])),(2,1,(.str [98,111,111,108])),(3,1,(.str [99,104,97,110])),(4,1,(.str [101,108,115,101])),(5,1,(.str [102,97,105,108])),(6,1,(.str [102,97,108,115,101])),(7,1,(.str [102,108,111,97,116])),(8,1,(.str [102,117,110,99])),(9,1,(.str [103,101,116])),(10,1,(.str [103,111])),(11,1,(.str [105,102])),(12,1,(.str [105,110,116])),(13,1,(.str [108,111,99,107])),(14,1,(.str [109,117,116,101,120])),(15,1,(.str [112,117,116])),(16,1,(.str [114,101,99,118])),(17,1,(.str [114,101,116,117,114,110])),(18,1,(.str [115,101,110,100])),(19,1,(.str [116,114,117,101])),(20,1,(.str [117,110,108,111,99,107])),(21,1,(.str [118,97,114])),(22,1,(.str [119,104,105,108,101]))] [vS,vS,vS,vS,vS,vS,vS,vS,vS,vS,vS,vS,vS,vS,vS,vS,vS,vS,vS,vS,vS,vS,vS] fun l0=>ifB (flatsQ l0) ((fun (x1:AV) (h2:AHeap)=>
c 133 [x1,(nthV A 0)] h2 (fun x5 h6=>
kr x5 h6) kp) (.slice h.n (nat_lit 0) 23 23 true) (alQ h (.cells .own 1 l0))) false) false
noncomputable def h154:FBody:=fun c D k A h kr kp=>ifB (Nat.beq (lenV A) 1) (
c 116 [(nthV A 0),(.func (.func 152) [] [])] h (fun x2 h3=>
p_if x2 (p_load1 (.ptr 3 0) h3 fun x4 b5=>
asNil (
p_faddr 1 (nthV A 0) fun x6=>
p_load1 x6 h3 fun x7 b8=>
ifB (okAll (.rd b8) h3 h3 [⟨1,(.rd b5),h3,h3⟩]) (
c 72 [(nthV A 0),x4,x7] h3 (fun x11 h12=>
kr undefA h12) kp) false) (nthV A 0)) (kr undefA h3)) kp) false
noncomputable def h155:FBody:=fun c D k A h kr kp=>ifB (Nat.beq (lenV A) 2) (
c 174 [(nthV A 0),(nthV A 1)] h (fun x2 h3=>
kr x2 h3) kp) false
noncomputable def h163:FBody:=fun c D k A h kr kp=>ifB (Nat.beq (lenV A) 1) (
(fun (x0:AV) (h1:AHeap)=>
c 48 [(nthV A 0)] h1 (fun x4 h5=>
(fun (x6:AV) (h7:AHeap)=>
p_store 5 x6 x4 h7 fun h8 b9=>
p_faddr 0 x6 fun x10=>
p_load1 x10 h8 fun x11 b12=>
p_eq x11 (vi 1) fun x13=>
joinL (fun j14=>p_if x13 (
c 176 [(nthV A 0)] h8 (fun x19 h20=>
p_store 9 x0 x19 h20 fun h21 b22=>
p_loadN 9 x0 h21 fun x23 b24=>kr x23 h21) kp) (j14 [] h8)) fun l15 h16=>
p_faddr 0 x6 fun x25=>
p_load1 x25 h16 fun x26 b27=>
p_bin .neq fiNeq x26 (vi 2) fun x28=>
joinL (fun j29=>p_if x28 (
c 85 [(nthV A 0)] h16 (fun x34 h35=>
j29 [] h35) kp) (j29 [] h16)) fun l30 h31=>
p_faddr 1 x6 fun x36=>
p_load1 x36 h31 fun x37 b38=>
joinL (fun j39=>
p_eq x37 (.str [103,111]) fun x42=>
p_if x42 (c 92 [(nthV A 0),(.str [103,111])] h31 (fun x45 h46=>
(fun (x47:AV) (h48:AHeap)=>
p_faddr 4 x6 fun x49=>
p_load1 x49 h48 fun x50 b51=>
ifB (okAll (.rd b51) h48 h48 [⟨6,.new,h46,h48⟩]) (
c 87 [(nthV A 0),(vi 1)] h48 (fun x54 h55=>
ifB (okAll .big h48 h55 [⟨1,(.rd b51),h48,h48⟩,⟨6,.new,h46,h48⟩]) (
p_fld x54 1 fun x56=>
onFill [(0,1,(vi 12)),(1,1,x50),(2,1,x56)] [(vi 0),(vi 0),vS,(vi 0),(vi 0),(vi 0),(vi 0),(.int .u64 (.ofNat 0)),.nilSlice] fun l57=>(fun (x58:AV)=>ifB (okAll .free h55 h55 [⟨6,.new,h46,h48⟩]) (
p_store 9 x47 x58 h55 fun h59 b60=>
c 177 [(nthV A 0)] h59 (fun x63 h64=>
p_faddr 8 x47 fun x65=>
p_store 1 x65 x63 h64 fun h66 b67=>
p_loadN 9 x47 h66 fun x68 b69=>
p_store 9 x0 x68 h66 fun h70 b71=>
p_loadN 9 x0 h70 fun x72 b73=>kr x72 h70) kp) false) (.agg l57)) false) (fun p52 h53=>ifB (okAll .big h48 h53 [⟨1,(.rd b51),h48,h48⟩,⟨6,.new,h46,h48⟩]) (
kp p52 h53) false)) false) (.ptr h46.n (nat_lit 0)) (alQ h46 (.cells .own (nat_lit 0) [(vi 0),(vi 0),vS,(vi 0),(vi 0),(vi 0),(vi 0),(.int .u64 (.ofNat 0)),.nilSlice]))) kp) (p_eq x37 (.str [108,111,99,107]) fun x74=>
p_if x74 (c 178 [(nthV A 0),(vi 14),(vi 0)] h31 (fun x77 h78=>
p_store 9 x0 x77 h78 fun h79 b80=>
p_loadN 9 x0 h79 fun x81 b82=>kr x81 h79) kp) (p_eq x37 (.str [117,110,108,111,99,107]) fun x83=>
p_if x83 (c 178 [(nthV A 0),(vi 15),(vi 0)] h31 (fun x86 h87=>
p_store 9 x0 x86 h87 fun h88 b89=>
p_loadN 9 x0 h88 fun x90 b91=>kr x90 h88) kp) (p_eq x37 (.str [115,101,110,100]) fun x92=>
p_if x92 (c 178 [(nthV A 0),(vi 16),(vi 1)] h31 (fun x95 h96=>
p_store 9 x0 x95 h96 fun h97 b98=>
p_loadN 9 x0 h97 fun x99 b100=>kr x99 h97) kp) (p_eq x37 (.str [114,101,99,118]) fun x101=>
p_if x101 (c 178 [(nthV A 0),(vi 17),(vi 2)] h31 (fun x104 h105=>
p_store 9 x0 x104 h105 fun h106 b107=>
p_loadN 9 x0 h106 fun x108 b109=>kr x108 h106) kp) (p_eq x37 (.str [97,100,100]) fun x110=>
p_if x110 (c 178 [(nthV A 0),(vi 18),(vi 1)] h31 (fun x113 h114=>
p_store 9 x0 x113 h114 fun h115 b116=>
p_loadN 9 x0 h115 fun x117 b118=>kr x117 h115) kp) (p_eq x37 (.str [112,117,116]) fun x119=>
p_if x119 (c 178 [(nthV A 0),(vi 19),(vi 1)] h31 (fun x122 h123=>
p_store 9 x0 x122 h123 fun h124 b125=>
p_loadN 9 x0 h124 fun x126 b127=>kr x126 h124) kp) (p_eq x37 (.str [103,101,116]) fun x128=>
p_if x128 (c 178 [(nthV A 0),(vi 20),(vi 2)] h31 (fun x131 h132=>
p_store 9 x0 x131 h132 fun h133 b134=>
p_loadN 9 x0 h133 fun x135 b136=>kr x135 h133) kp) (p_eq x37 (.str [114,101,116,117,114,110]) fun x137=>
p_if x137 (c 92 [(nthV A 0),(.str [114,101,116,117,114,110])] h31 (fun x140 h141=>
p_faddr 4 x6 fun x142=>
p_load1 x142 h141 fun x143 b144=>
onFill [(0,1,(vi 23)),(1,1,x143)] [(vi 0),(vi 0),vS,(vi 0),(vi 0),(vi 0),(vi 0),(.int .u64 (.ofNat 0)),.nilSlice] fun l145=>(fun (x146:AV)=>p_store 9 x0 x146 h141 fun h147 b148=>
p_loadN 9 x0 h147 fun x149 b150=>kr x149 h147) (.agg l145)) kp) (j39 [] h31)))))))))) fun l40 h41=>
c 92 [(nthV A 0),(.str [102,97,105,108])] h41 (fun x153 h154=>
p_faddr 4 x6 fun x155=>
p_load1 x155 h154 fun x156 b157=>
c 59 [(nthV A 0)] h154 (fun x160 h161=>
ifB (okAll .big h154 h161 [⟨1,(.rd b157),h154,h154⟩]) (
onFill [(0,9,x160)] [(vi 0),(vi 0),vS,(vi 0),(vi 0),(vi 0),(vi 0),(.int .u64 (.ofNat 0)),.nilSlice] fun l162=>ifB (flatsQ l162) ((fun (x163:AV) (h164:AHeap)=>
ifB (okAll .new h161 h164 [⟨1,(.rd b157),h154,h154⟩]) (
onFill [(0,1,(vi 24)),(1,1,x156),(8,1,x163)] [(vi 0),(vi 0),vS,(vi 0),(vi 0),(vi 0),(vi 0),(.int .u64 (.ofNat 0)),.nilSlice] fun l165=>(fun (x166:AV)=>p_store 9 x0 x166 h164 fun h167 b168=>
p_loadN 9 x0 h167 fun x169 b170=>kr x169 h167) (.agg l165)) false) (.slice h161.n (nat_lit 0) 1 1 true) (alQ h161 (.cells .own 9 l162))) false) false) (fun p158 h159=>ifB (okAll .big h154 h159 [⟨1,(.rd b157),h154,h154⟩]) (
kp p158 h159) false)) kp) (.ptr h5.n (nat_lit 0)) (alQ h5 (.cells .own (nat_lit 0) [(vi 0),vS,(vi 0),(.int .u64 (.ofNat 0)),(vi 0)]))) kp) (.ptr h.n (nat_lit 0)) (alQ h (.cells .own (nat_lit 0) [(vi 0),(vi 0),vS,(vi 0),(vi 0),(vi 0),(vi 0),(.int .u64 (.ofNat 0)),.nilSlice]))) false
noncomputable def h164:FBody:=fun c D k A h kr kp=>ifB (Nat.beq (lenV A) 2) (
p_box (nthV A 0) h fun x0 h1=>
p_box (nthV A 1) h1 fun x2 h3=>
p_faddr 0 x2 fun x4=>
p_load1 x4 h3 fun x5 b6=>
joinL (fun j7=>
p_eq x5 (vi 10) fun x10=>
joinL (fun j11=>p_if x10 (
j11 [x10] h3) (p_eq x5 (vi 22) fun x14=>
j11 [x14] h3)) fun l12 h13=>
p_if (nthV l12 0) (j7 [(vi 2)] h13) (p_eq x5 (vi 21) fun x15=>
p_if x15 (p_faddr 8 x2 fun x16=>
p_load1 x16 h13 fun x17 b18=>
p_lenL x17 fun x19=>
p_eq x19 (vi 3) fun x20=>
p_if x20 (j7 [(vi 3)] h13) (j7 [(vi 2)] h13)) (p_eq x5 (vi 14) fun x21=>
joinL (fun j22=>p_if x21 (
j22 [x21] h13) (p_eq x5 (vi 15) fun x25=>
p_if x25 (j22 [x25] h13) (p_eq x5 (vi 23) fun x26=>
j22 [x26] h13))) fun l23 h24=>
p_if (nthV l23 0) (j7 [(vi 0)] h24) (p_eq x5 (vi 12) fun x27=>
joinL (fun j28=>p_if x27 (
j28 [x27] h24) (p_eq x5 (vi 13) fun x31=>
j28 [x31] h24)) fun l29 h30=>
p_if (nthV l29 0) (p_faddr 8 x2 fun x32=>
p_load1 x32 h30 fun x33 b34=>
p_lenL x33 fun x35=>
j7 [x35] h30) (p_eq x5 (vi 11) fun x36=>
joinL (fun j37=>p_if x36 (
j37 [x36] h30) (p_eq x5 (vi 16) fun x40=>
p_if x40 (j37 [x40] h30) (p_eq x5 (vi 17) fun x41=>
p_if x41 (j37 [x41] h30) (p_eq x5 (vi 18) fun x42=>
p_if x42 (j37 [x42] h30) (p_eq x5 (vi 19) fun x43=>
p_if x43 (j37 [x43] h30) (p_eq x5 (vi 20) fun x44=>
p_if x44 (j37 [x44] h30) (p_eq x5 (vi 24) fun x45=>
j37 [x45] h30))))))) fun l38 h39=>
p_if (nthV l38 0) (j7 [(vi 1)] h39) (p_loadN 0 x0 h39 fun x46 b47=>
c 94 [x46,vF] h39 (fun x50 h51=>
j7 [(vi 1)] h51) kp)))))) fun l8 h9=>
p_loadN 0 x0 h9 fun x52 b53=>
p_faddr 8 x2 fun x54=>
p_load1 x54 h9 fun x55 b56=>
p_lenL x55 fun x57=>
p_eq x57 (nthV l8 0) fun x58=>
c 94 [x52,x58] h9 (fun x61 h62=>
onFill [] [(vi 0),(vi 0),vS,(vi 0),(vi 0),(vi 0),(vi 0),(.int .u64 (.ofNat 0)),.nilSlice] fun l63=>(fun (x64:AV)=>(fun (x65:AV) (h66:AHeap)=>
p_store 9 x65 x64 h66 fun h67 b68=>
p_faddr 0 x2 fun x69=>
p_load1 x69 h67 fun x70 b71=>
joinL (fun j72=>
p_eq x70 (vi 10) fun x75=>
joinL (fun j76=>p_if x75 (
j76 [x75] h67) (p_eq x70 (vi 21) fun x79=>
p_if x79 (j76 [x79] h67) (p_eq x70 (vi 22) fun x80=>
p_if x80 (j76 [x80] h67) (p_eq x70 (vi 23) fun x81=>
p_if x81 (j76 [x81] h67) (p_eq x70 (vi 24) fun x82=>
j76 [x82] h67))))) fun l77 h78=>
p_if (nthV l77 0) (j72 [] h78) (p_loadN 0 x0 h78 fun x83 b84=>
p_faddr 2 x2 fun x85=>
p_load1 x85 h78 fun x86 b87=>
c 97 [x83,x86] h78 (fun x90 h91=>
p_faddr 2 x2 fun x92=>
p_load1 x92 h91 fun x93 b94=>
p_faddr 2 x65 fun x95=>
p_store 1 x95 x93 h91 fun h96 b97=>
j72 [] h96) kp)) fun l73 h74=>
p_loadN 0 x0 h74 fun x98 b99=>
p_loadN 9 x2 h74 fun x100 b101=>
p_loadN 9 x65 h74 fun x102 b103=>
c 95 [x98,x100,x102] h74 (fun x106 h107=>
p_faddr 8 x2 fun x108=>
p_load1 x108 h107 fun x109 b110=>
p_lenL x109 fun x111=>
loopB k (fun r112 l113 h114=>
p_bin .lss fiLss (nthV l113 0) x111 fun x115=>
joinL (fun j116=>p_if x115 (
j116 [] h114) (kr undefA h114)) fun l117 h118=>
joinL (fun j119=>
p_iaddr 9 x109 (nthV l113 0) fun x122=>
p_loadN 9 x122 h118 fun x123 b124=>
(fun (x125:AV) (h126:AHeap)=>
p_store 9 x125 x123 h126 fun h127 b128=>
p_faddr 0 x2 fun x129=>
p_load1 x129 h127 fun x130 b131=>
p_eq x130 (vi 17) fun x132=>
joinL (fun j133=>p_if x132 (
j133 [x132] h127) (p_faddr 0 x2 fun x136=>
p_load1 x136 h127 fun x137 b138=>
p_eq x137 (vi 20) fun x139=>
p_if x139 (j133 [x139] h127) (p_faddr 0 x2 fun x140=>
p_load1 x140 h127 fun x141 b142=>
p_eq x141 (vi 10) fun x143=>
joinV (fun j144=>p_yes x143 (j144 (nthV l113 0) h127) (j144 undefA h127)) fun x145 h146=>
joinV (fun j147=>p_yes x143 (p_eq x145 (vi 0) fun x150=>
j147 x150 h146) (j147 undefA h146)) fun x148 h149=>
p_pick x143 x148 vF fun x151=>
j133 [x151] h149))) fun l134 h135=>
p_if (nthV l134 0) (p_loadN 0 x0 h135 fun x152 b153=>
p_loadN 9 x125 h135 fun x154 b155=>
c 179 [x152,x154] h135 (fun x158 h159=>
j119 [] h159) kp) (p_bin .gtr fiGtr (nthV l113 0) (vi 0) fun x160=>
joinV (fun j161=>p_yes x160 (p_faddr 0 x2 fun x164=>
j161 x164 h135) (j161 undefA h135)) fun x162 h163=>
joinV (fun j165=>p_yes x160 (p_load1 x162 h163 fun x168 b169=>
j165 x168 h163) (j165 undefA h163)) fun x166 h167=>
joinV (fun j170=>p_yes x160 (p_eq x166 (vi 21) fun x173=>
j170 x173 h167) (j170 undefA h167)) fun x171 h172=>
joinV (fun j174=>p_yes x160 (j174 x171 h172) (j174 undefA h172)) fun x175 h176=>
joinV (fun j177=>p_no x175 (p_faddr 0 x2 fun x180=>
j177 x180 h176) (j177 undefA h176)) fun x178 h179=>
joinV (fun j181=>p_no x175 (p_load1 x178 h179 fun x184 b185=>
j181 x184 h179) (j181 undefA h179)) fun x182 h183=>
joinV (fun j186=>p_no x175 (p_eq x182 (vi 22) fun x189=>
j186 x189 h183) (j186 undefA h183)) fun x187 h188=>
joinV (fun j190=>p_yes x160 (p_pick x175 vT x187 fun x193=>
j190 x193 h188) (j190 undefA h188)) fun x191 h192=>
p_pick x160 x191 vF fun x194=>
p_if x194 (p_loadN 0 x0 h192 fun x195 b196=>
p_loadN 9 x125 h192 fun x197 b198=>
c 140 [x195,x197] h192 (fun x201 h202=>
j119 [] h202) kp) (p_loadN 0 x0 h192 fun x203 b204=>
p_loadN 9 x125 h192 fun x205 b206=>
c 57 [x203,x205] h192 (fun x209 h210=>
j119 [] h210) kp))) (.ptr h118.n (nat_lit 0)) (alQ h118 (.cells .own (nat_lit 0) [(vi 0),(vi 0),vS,(vi 0),(vi 0),(vi 0),(vi 0),(.int .u64 (.ofNat 0)),.nilSlice]))) fun l120 h121=>
p_add (nthV l113 0) (vi 1) fun x211=>
r112 [x211] h121) [(vi 0)] h107) kp) (.ptr h62.n (nat_lit 0)) (alQ h62 (.cells .own (nat_lit 0) [(vi 0),(vi 0),vS,(vi 0),(vi 0),(vi 0),(vi 0),(.int .u64 (.ofNat 0)),.nilSlice]))) (.agg l63)) kp) false
noncomputable def h169:FBody:=fun c D k A h kr kp=>ifB (Nat.beq (lenV A) 5) (
p_bin .lss fiLss (nthV A 2) (vi 2) fun x0=>
joinV (fun j1=>p_no x0 (j1 (nthV A 2) h) (j1 undefA h)) fun x2 h3=>
joinV (fun j4=>p_no x0 (p_eq x2 (vi 10) fun x7=>
j4 x7 h3) (j4 undefA h3)) fun x5 h6=>
p_pick x0 vT x5 fun x8=>
joinV (fun j9=>p_no x8 (j9 (nthV A 2) h6) (j9 undefA h6)) fun x10 h11=>
joinV (fun j12=>p_no x8 (p_bin .gtr fiGtr x10 (vi 36) fun x15=>
j12 x15 h11) (j12 undefA h11)) fun x13 h14=>
p_pick x8 vT x13 fun x16=>
joinL (fun j17=>p_if x16 (
(fun (x20:AV)=>asIf (fun t21 x22=>kp (.iface t21 x22) h14) x20) (.iface 9 (.str [115,116,114,99,111,110,118,58,32,105,108,108,101,103,97,108,32,65,112,112,101,110,100,73,110,116,47,70,111,114,109,97,116,73,110,116,32,98,97,115,101]))) (j17 [] h14)) fun l18 h19=>
(fun (x23:AV) (h24:AHeap)=>
joinL (fun j25=>p_if (nthV A 3) (
p_gen (.un .neg (.t 31)) [(31,(nthV A 1))] h24 fun x28 h29 k30=>
j25 [x28] h29) (j25 [(nthV A 1)] h24)) fun l26 h27=>
c 183 [(nthV A 2)] h27 (fun x33 h34=>
joinL (fun j35=>p_if x33 (
p_cvi .u64 (nthV A 2) fun x38=>
c 184 [x38] h34 (fun x41 h42=>
p_cvi .u64 x41 fun x43=>
p_cvi .u64 (nthV A 2) fun x44=>
p_cvi .u64 (nthV A 2) fun x45=>
p_bin .sub fiSub x45 (.int .u64 (.ofNat 1)) fun x46=>
joinL (fun j47=>
loopB k (fun r50 l51 h52=>
p_bin .geq fiGeq (nthV l51 0) x44 fun x53=>
joinL (fun j54=>p_if x53 (
j54 [] h52) (j47 [(nthV l51 0),(nthV l51 1)] h52)) fun l55 h56=>
p_bin .sub fiSub (nthV l51 1) (vi 1) fun x57=>
p_gen (.bin .and (.t 50) (.t 51)) [(50,(nthV l51 0)),(51,x46)] h56 fun x58 h59 k60=>
p_idxs (.str [48,49,50,51,52,53,54,55,56,57,97,98,99,100,101,102,103,104,105,106,107,108,109,110,111,112,113,114,115,116,117,118,119,120,121,122]) x58 fun x61=>
p_gen (.iarr 65 1 (.t 12) (.t 49)) [(12,x23),(49,x57)] h59 fun x62 h63 k64=>
p_store 1 x62 x61 h63 fun h65 b66=>
p_gen (.bin .shr (.t 55) (.t 56)) [(55,(nthV l51 0)),(56,x43)] h65 fun x67 h68 k69=>
r50 [x67,x57] h68) [(nthV l26 0),(vi 65)] h42) fun l48 h49=>
p_bin .sub fiSub (nthV l48 1) (vi 1) fun x70=>
p_idxs (.str [48,49,50,51,52,53,54,55,56,57,97,98,99,100,101,102,103,104,105,106,107,108,109,110,111,112,113,114,115,116,117,118,119,120,121,122]) (nthV l48 0) fun x71=>
p_gen (.iarr 65 1 (.t 12) (.t 60)) [(12,x23),(60,x70)] h49 fun x72 h73 k74=>
p_store 1 x72 x71 h73 fun h75 b76=>
j35 [x70] h75) kp) (p_cvi .u64 (nthV A 2) fun x77=>
joinL (fun j78=>
loopB k (fun r81 l82 h83=>
p_bin .geq fiGeq (nthV l82 0) x77 fun x84=>
joinL (fun j85=>p_if x84 (
j85 [] h83) (j78 [(nthV l82 0),(nthV l82 1)] h83)) fun l86 h87=>
p_bin .sub fiSub (nthV l82 1) (vi 1) fun x88=>
p_gen (.bin .quo (.t 71) (.t 72)) [(71,(nthV l82 0)),(72,x77)] h87 fun x89 h90 k91=>
p_gen (.bin .mul (.t 76) (.t 77)) [(76,x89),(77,x77)] h90 fun x92 h93 k94=>
p_bin .sub fiSub (nthV l82 0) x92 fun x95=>
p_idxs (.str [48,49,50,51,52,53,54,55,56,57,97,98,99,100,101,102,103,104,105,106,107,108,109,110,111,112,113,114,115,116,117,118,119,120,121,122]) x95 fun x96=>
p_gen (.iarr 65 1 (.t 12) (.t 74)) [(12,x23),(74,x88)] h93 fun x97 h98 k99=>
p_store 1 x97 x96 h98 fun h100 b101=>
r81 [x89,x88] h100) [(nthV l26 0),(vi 65)] h34) fun l79 h80=>
p_bin .sub fiSub (nthV l79 1) (vi 1) fun x102=>
p_idxs (.str [48,49,50,51,52,53,54,55,56,57,97,98,99,100,101,102,103,104,105,106,107,108,109,110,111,112,113,114,115,116,117,118,119,120,121,122]) (nthV l79 0) fun x103=>
p_gen (.iarr 65 1 (.t 12) (.t 85)) [(12,x23),(85,x102)] h80 fun x104 h105 k106=>
p_store 1 x104 x103 h105 fun h107 b108=>
j35 [x102] h107)) fun l36 h37=>
joinL (fun j109=>p_if (nthV A 3) (
p_bin .sub fiSub (nthV l36 0) (vi 1) fun x112=>
p_gen (.iarr 65 1 (.t 12) (.t 92)) [(12,x23),(92,x112)] h37 fun x113 h114 k115=>
p_store 1 x113 (.int .u8 (.ofNat 45)) h114 fun h116 b117=>
j109 [x112] h116) (j109 [(nthV l36 0)] h37)) fun l110 h111=>
joinL (fun j118=>p_if (nthV A 4) (
p_gen (.slarr 65 1 (.t 12) (some (.t 96)) none none) [(12,x23),(96,(nthV l110 0))] h111 fun x121 h122 k123=>
p_append .own 1 1 (nthV A 0) x121 h122 fun x124 h125=>
kr (.tuple [x124,vS]) h125) (j118 [.nilSlice] h111)) fun l119 h120=>
p_gen (.slarr 65 1 (.t 12) (some (.t 99)) none none) [(12,x23),(99,(nthV l110 0))] h120 fun x126 h127 k128=>
p_gen (.cvbs (.t 100)) [(100,x126)] h127 fun x129 h130 k131=>
kr (.tuple [(nthV l119 0),x129]) h130) kp) (.ptr h19.n (nat_lit 0)) (alQ h19 (.cells .own (nat_lit 0) [(.int .u8 (.ofNat 0)),(.int .u8 (.ofNat 0)),(.int .u8 (.ofNat 0)),(.int .u8 (.ofNat 0)),(.int .u8 (.ofNat 0)),(.int .u8 (.ofNat 0)),(.int .u8 (.ofNat 0)),(.int .u8 (.ofNat 0)),(.int .u8 (.ofNat 0)),(.int .u8 (.ofNat 0)),(.int .u8 (.ofNat 0)),(.int .u8 (.ofNat 0)),(.int .u8 (.ofNat 0)),(.int .u8 (.ofNat 0)),(.int .u8 (.ofNat 0)),(.int .u8 (.ofNat 0)),(.int .u8 (.ofNat 0)),(.int .u8 (.ofNat 0)),(.int .u8 (.ofNat 0)),(.int .u8 (.ofNat 0)),(.int .u8 (.ofNat 0)),(.int .u8 (.ofNat 0)),(.int .u8 (.ofNat 0)),(.int .u8 (.ofNat 0)),(.int .u8 (.ofNat 0)),(.int .u8 (.ofNat 0)),(.int .u8 (.ofNat 0)),(.int .u8 (.ofNat 0)),(.int .u8 (.ofNat 0)),(.int .u8 (.ofNat 0)),(.int .u8 (.ofNat 0)),(.int .u8 (.ofNat 0)),(.int .u8 (.ofNat 0)),(.int .u8 (.ofNat 0)),(.int .u8 (.ofNat 0)),(.int .u8 (.ofNat 0)),(.int .u8 (.ofNat 0)),(.int .u8 (.ofNat 0)),(.int .u8 (.ofNat 0)),(.int .u8 (.ofNat 0)),(.int .u8 (.ofNat 0)),(.int .u8 (.ofNat 0)),(.int .u8 (.ofNat 0)),(.int .u8 (.ofNat 0)),(.int .u8 (.ofNat 0)),(.int .u8 (.ofNat 0)),(.int .u8 (.ofNat 0)),(.int .u8 (.ofNat 0)),(.int .u8 (.ofNat 0)),(.int .u8 (.ofNat 0)),(.int .u8 (.ofNat 0)),(.int .u8 (.ofNat 0)),(.int .u8 (.ofNat 0)),(.int .u8 (.ofNat 0)),(.int .u8 (.ofNat 0)),(.int .u8 (.ofNat 0)),(.int .u8 (.ofNat 0)),(.int .u8 (.ofNat 0)),(.int .u8 (.ofNat 0)),(.int .u8 (.ofNat 0)),(.int .u8 (.ofNat 0)),(.int .u8 (.ofNat 0)),(.int .u8 (.ofNat 0)),(.int .u8 (.ofNat 0)),(.int .u8 (.ofNat 0))]))) false
noncomputable def h172:FBody:=fun c D k A h kr kp=>ifB (Nat.beq (lenV A) 1) (
(fun (x0:AV) (h1:AHeap)=>
(fun (x2:AV)=>onFill [(0,1,(.str [43])),(1,1,(.str [45]))] [vS,vS] fun l3=>ifB (flatsQ l3) ((fun (x4:AV) (h5:AHeap)=>
c 104 [(nthV A 0),x2,vT,x4] h5 (fun x8 h9=>
p_store 9 x0 x8 h9 fun h10 b11=>
p_loadN 9 x0 h10 fun x12 b13=>kr x12 h10) kp) (.slice h1.n (nat_lit 0) 2 2 true) (alQ h1 (.cells .own 1 l3))) false) (.func (.func 187) [(nthV A 0)] [])) (.ptr h.n (nat_lit 0)) (alQ h (.cells .own (nat_lit 0) [(vi 0),(vi 0),vS,(vi 0),(vi 0),(vi 0),(vi 0),(.int .u64 (.ofNat 0)),.nilSlice]))) false
noncomputable def h173:FBody:=fun c D k A h kr kp=>ifB (Nat.beq (lenV A) 1) (
p_lenL (nthV A 0) fun x0=>
joinL (fun j1=>
loopB k (fun r4 l5 h6=>
p_bin .lss fiLss (nthV l5 1) x0 fun x7=>
joinL (fun j8=>p_if x7 (
j8 [] h6) (j1 [(nthV l5 0)] h6)) fun l9 h10=>
joinL (fun j11=>
p_iaddr 9 (nthV A 0) (nthV l5 1) fun x14=>
p_loadN 9 x14 h10 fun x15 b16=>
(fun (x17:AV) (h18:AHeap)=>
p_store 9 x17 x15 h18 fun h19 b20=>
p_loadN 9 x17 h19 fun x21 b22=>
c 58 [x21] h19 (fun x25 h26=>
onFill [(0,1,x25)] [vS] fun l27=>ifB (flatsQ l27) ((fun (x28:AV) (h29:AHeap)=>
p_append .own 1 16 (nthV l5 0) x28 h29 fun x30 h31=>
j11 [x30] h31) (.slice h26.n (nat_lit 0) 1 1 true) (alQ h26 (.cells .own 1 l27))) false) kp) (.ptr h10.n (nat_lit 0)) (alQ h10 (.cells .own (nat_lit 0) [(vi 0),(vi 0),vS,(vi 0),(vi 0),(vi 0),(vi 0),(.int .u64 (.ofNat 0)),.nilSlice]))) fun l12 h13=>
p_add (nthV l5 1) (vi 1) fun x32=>
r4 [(nthV l12 0),x32] h13) [.nilSlice,(vi 0)] h) fun l2 h3=>
c 109 [(nthV l2 0),(.str [44,32])] h3 (fun x35 h36=>
kr x35 h36) kp) false
noncomputable def h174:FBody:=fun c D k A h kr kp=>ifB (Nat.beq (lenV A) 2) (
c 188 [(nthV A 0),(nthV A 1)] h (fun x2 h3=>
kr x2 h3) kp) false
noncomputable def h176:FBody:=fun c D k A h kr kp=>ifB (Nat.beq (lenV A) 1) (
(fun (x0:AV) (h1:AHeap)=>
c 48 [(nthV A 0)] h1 (fun x4 h5=>
p_fld x4 4 fun x6=>
asNil (
p_faddr 0 (nthV A 0) fun x7=>
p_load1 x7 h5 fun x8 b9=>
p_lenL x8 fun x10=>
p_bin .gtr fiGtr x10 (vi 1) fun x11=>
joinV (fun j12=>p_yes x11 (j12 (nthV A 0) h5) (j12 undefA h5)) fun x13 h14=>
joinV (fun j15=>p_yes x11 (asNil (
j15 x13 h14) x13) (j15 undefA h14)) fun x16 h17=>
joinV (fun j18=>p_yes x11 (p_faddr 0 x16 fun x21=>
j18 x21 h17) (j18 undefA h17)) fun x19 h20=>
joinV (fun j22=>p_yes x11 (p_load1 x19 h20 fun x25 b26=>
j22 x25 h20) (j22 undefA h20)) fun x23 h24=>
joinV (fun j27=>p_yes x11 (p_iaddr 5 x23 (vi 1) fun x30=>
j27 x30 h24) (j27 undefA h24)) fun x28 h29=>
joinV (fun j31=>p_yes x11 (p_faddr 0 x28 fun x34=>
j31 x34 h29) (j31 undefA h29)) fun x32 h33=>
joinV (fun j35=>p_yes x11 (p_load1 x32 h33 fun x38 b39=>
j35 x38 h33) (j35 undefA h33)) fun x36 h37=>
joinV (fun j40=>p_yes x11 (p_eq x36 (vi 5) fun x43=>
j40 x43 h37) (j40 undefA h37)) fun x41 h42=>
p_pick x11 x41 vF fun x44=>
joinL (fun j45=>p_if x44 (
asNil (
p_faddr 0 (nthV A 0) fun x48=>
p_load1 x48 h42 fun x49 b50=>
p_iaddr 5 x49 (vi 1) fun x51=>
p_faddr 1 x51 fun x52=>
p_load1 x52 h42 fun x53 b54=>
p_eq x53 (.str [58,61]) fun x55=>
p_if x55 (c 87 [(nthV A 0),(vi 1)] h42 (fun x58 h59=>
p_fld x58 1 fun x60=>
onFill [(0,1,(vi 11)),(1,1,x6),(2,1,x60)] [(vi 0),(vi 0),vS,(vi 0),(vi 0),(vi 0),(vi 0),(.int .u64 (.ofNat 0)),.nilSlice] fun l61=>(fun (x62:AV)=>(fun (x63:AV) (h64:AHeap)=>
p_store 9 x63 x62 h64 fun h65 b66=>
c 92 [(nthV A 0),(.str [58,61])] h65 (fun x69 h70=>
c 59 [(nthV A 0)] h70 (fun x73 h74=>
onFill [(0,9,x73)] [(vi 0),(vi 0),vS,(vi 0),(vi 0),(vi 0),(vi 0),(.int .u64 (.ofNat 0)),.nilSlice] fun l75=>ifB (flatsQ l75) ((fun (x76:AV) (h77:AHeap)=>
p_faddr 8 x63 fun x78=>
p_store 1 x78 x76 h77 fun h79 b80=>
p_loadN 9 x63 h79 fun x81 b82=>
p_store 9 x0 x81 h79 fun h83 b84=>
p_loadN 9 x0 h83 fun x85 b86=>kr x85 h83) (.slice h74.n (nat_lit 0) 1 1 true) (alQ h74 (.cells .own 9 l75))) false) kp) kp) (.ptr h59.n (nat_lit 0)) (alQ h59 (.cells .own (nat_lit 0) [(vi 0),(vi 0),vS,(vi 0),(vi 0),(vi 0),(vi 0),(.int .u64 (.ofNat 0)),.nilSlice]))) (.agg l61)) kp) (p_eq x53 (.str [40]) fun x87=>
p_if x87 (c 87 [(nthV A 0),(vi 1)] h42 (fun x90 h91=>
p_fld x90 1 fun x92=>
onFill [(0,1,(vi 13)),(1,1,x6),(2,1,x92)] [(vi 0),(vi 0),vS,(vi 0),(vi 0),(vi 0),(vi 0),(.int .u64 (.ofNat 0)),.nilSlice] fun l93=>(fun (x94:AV)=>(fun (x95:AV) (h96:AHeap)=>
p_store 9 x95 x94 h96 fun h97 b98=>
c 177 [(nthV A 0)] h97 (fun x101 h102=>
p_faddr 8 x95 fun x103=>
p_store 1 x103 x101 h102 fun h104 b105=>
p_loadN 9 x95 h104 fun x106 b107=>
p_store 9 x0 x106 h104 fun h108 b109=>
p_loadN 9 x0 h108 fun x110 b111=>kr x110 h108) kp) (.ptr h91.n (nat_lit 0)) (alQ h91 (.cells .own (nat_lit 0) [(vi 0),(vi 0),vS,(vi 0),(vi 0),(vi 0),(vi 0),(.int .u64 (.ofNat 0)),.nilSlice]))) (.agg l93)) kp) (j45 [] h42))) (nthV A 0)) (j45 [] h42)) fun l46 h47=>
c 189 [(nthV A 0)] h47 (fun x114 h115=>
(fun (x116:AV) (h117:AHeap)=>
p_store 9 x116 x114 h117 fun h118 b119=>
p_faddr 0 x116 fun x120=>
p_load1 x120 h118 fun x121 b122=>
p_eq x121 (vi 28) fun x123=>
joinV (fun j124=>p_yes x123 (j124 (nthV A 0) h118) (j124 undefA h118)) fun x125 h126=>
joinV (fun j127=>p_yes x123 (onFill [(0,1,(.str [61]))] [vS] fun l130=>ifB (flatsQ l130) ((fun (x131:AV) (h132:AHeap)=>
j127 x131 h132) (.slice h126.n (nat_lit 0) 1 1 true) (alQ h126 (.cells .own 1 l130))) false) (j127 undefA h126)) fun x128 h129=>
joinV (fun j133=>p_yes x123 (c 86 [x125,x128] h129 (fun x138 h139=>
j133 x138 h139) kp) (j133 undefA h129)) fun x134 h135=>
joinV (fun j140=>p_yes x123 (p_not x134 fun x143=>
j140 x143 h135) (j140 undefA h135)) fun x141 h142=>
p_pick x123 x141 vF fun x144=>
joinL (fun j145=>p_if x144 (
c 85 [(nthV A 0)] h142 (fun x150 h151=>
j145 [] h151) kp) (j145 [] h142)) fun l146 h147=>
c 92 [(nthV A 0),(.str [61])] h147 (fun x154 h155=>
p_loadN 9 x116 h155 fun x156 b157=>
c 59 [(nthV A 0)] h155 (fun x160 h161=>
ifB (okAll .big h155 h161 [⟨1,(.rd b157),h155,h155⟩]) (
onFill [(0,9,x156),(9,9,x160)] [(vi 0),(vi 0),vS,(vi 0),(vi 0),(vi 0),(vi 0),(.int .u64 (.ofNat 0)),.nilSlice,(vi 0),(vi 0),vS,(vi 0),(vi 0),(vi 0),(vi 0),(.int .u64 (.ofNat 0)),.nilSlice] fun l162=>ifB (flatsQ l162) ((fun (x163:AV) (h164:AHeap)=>
onFill [(0,1,(vi 10)),(1,1,x6),(8,1,x163)] [(vi 0),(vi 0),vS,(vi 0),(vi 0),(vi 0),(vi 0),(.int .u64 (.ofNat 0)),.nilSlice] fun l165=>(fun (x166:AV)=>p_store 9 x0 x166 h164 fun h167 b168=>
p_loadN 9 x0 h167 fun x169 b170=>kr x169 h167) (.agg l165)) (.slice h161.n (nat_lit 0) 2 2 true) (alQ h161 (.cells .own 9 l162))) false) false) (fun p158 h159=>ifB (okAll .big h155 h159 [⟨1,(.rd b157),h155,h155⟩]) (
kp p158 h159) false)) kp) (.ptr h115.n (nat_lit 0)) (alQ h115 (.cells .own (nat_lit 0) [(vi 0),(vi 0),vS,(vi 0),(vi 0),(vi 0),(vi 0),(.int .u64 (.ofNat 0)),.nilSlice]))) kp) (nthV A 0)) kp) (.ptr h.n (nat_lit 0)) (alQ h (.cells .own (nat_lit 0) [(vi 0),(vi 0),vS,(vi 0),(vi 0),(vi 0),(vi 0),(.int .u64 (.ofNat 0)),.nilSlice]))) false
noncomputable def h177:FBody:=fun c D k A h kr kp=>ifB (Nat.beq (lenV A) 1) (
c 136 [(nthV A 0),(.str [40])] h (fun x2 h3=>
onFill [(0,1,(.str [41]))] [vS] fun l4=>ifB (flatsQ l4) ((fun (x5:AV) (h6:AHeap)=>
c 86 [(nthV A 0),x5] h6 (fun x9 h10=>
p_not x9 fun x11=>
joinL (fun j12=>
loopB k (fun r15 l16 h17=>
joinL (fun j18=>p_if (nthV l16 1) (
j18 [] h17) (j12 [(nthV l16 0)] h17)) fun l19 h20=>
joinL (fun j21=>
c 59 [(nthV A 0)] h20 (fun x26 h27=>
onFill [(0,9,x26)] [(vi 0),(vi 0),vS,(vi 0),(vi 0),(vi 0),(vi 0),(.int .u64 (.ofNat 0)),.nilSlice] fun l28=>ifB (flatsQ l28) ((fun (x29:AV) (h30:AHeap)=>
p_append .own 9 96 (nthV l16 0) x29 h30 fun x31 h32=>
j21 [x31] h32) (.slice h27.n (nat_lit 0) 1 1 true) (alQ h27 (.cells .own 9 l28))) false) kp) fun l22 h23=>
c 135 [(nthV A 0),(.str [44])] h23 (fun x35 h36=>
r15 [(nthV l22 0),x35] h36) kp) [.nilSlice,x11] h10) fun l13 h14=>
c 138 [(nthV A 0),(.str [41])] h14 (fun x39 h40=>
kr (nthV l13 0) h40) kp) kp) (.slice h3.n (nat_lit 0) 1 1 true) (alQ h3 (.cells .own 1 l4))) false) kp) false
noncomputable def h178:FBody:=fun c D k A h kr kp=>ifB (Nat.beq (lenV A) 3) (
(fun (x0:AV) (h1:AHeap)=>
c 48 [(nthV A 0)] h1 (fun x4 h5=>
p_fld x4 4 fun x6=>
onFill [(0,1,(nthV A 1)),(1,1,x6)] [(vi 0),(vi 0),vS,(vi 0),(vi 0),(vi 0),(vi 0),(.int .u64 (.ofNat 0)),.nilSlice] fun l7=>(fun (x8:AV)=>(fun (x9:AV) (h10:AHeap)=>
p_store 9 x9 x8 h10 fun h11 b12=>
asNil (
p_faddr 0 (nthV A 0) fun x13=>
p_load1 x13 h11 fun x14 b15=>
p_gen (.slc 5 (.t 17) (some (.c (vi 1))) none none) [(17,x14)] h11 fun x16 h17 k18=>
asNil (
p_faddr 0 (nthV A 0) fun x19=>
p_store 1 x19 x16 h17 fun h20 b21=>
c 87 [(nthV A 0),(vi 1)] h20 (fun x24 h25=>
p_fld x24 1 fun x26=>
p_faddr 2 x9 fun x27=>
p_store 1 x27 x26 h25 fun h28 b29=>
p_eq (nthV A 2) (vi 0) fun x30=>
joinL (fun j31=>p_if x30 (
p_loadN 9 x9 h28 fun x34 b35=>
p_store 9 x0 x34 h28 fun h36 b37=>
p_loadN 9 x0 h36 fun x38 b39=>kr x38 h36) (j31 [] h28)) fun l32 h33=>
c 92 [(nthV A 0),(.str [44])] h33 (fun x42 h43=>
p_eq (nthV A 2) (vi 1) fun x44=>
joinL (fun j45=>p_if x44 (
c 59 [(nthV A 0)] h43 (fun x50 h51=>
onFill [(0,9,x50)] [(vi 0),(vi 0),vS,(vi 0),(vi 0),(vi 0),(vi 0),(.int .u64 (.ofNat 0)),.nilSlice] fun l52=>ifB (flatsQ l52) ((fun (x53:AV) (h54:AHeap)=>
p_faddr 8 x9 fun x55=>
p_store 1 x55 x53 h54 fun h56 b57=>
j45 [] h56) (.slice h51.n (nat_lit 0) 1 1 true) (alQ h51 (.cells .own 9 l52))) false) kp) (c 189 [(nthV A 0)] h43 (fun x60 h61=>
onFill [(0,9,x60)] [(vi 0),(vi 0),vS,(vi 0),(vi 0),(vi 0),(vi 0),(.int .u64 (.ofNat 0)),.nilSlice] fun l62=>ifB (flatsQ l62) ((fun (x63:AV) (h64:AHeap)=>
p_faddr 8 x9 fun x65=>
p_store 1 x65 x63 h64 fun h66 b67=>
j45 [] h66) (.slice h61.n (nat_lit 0) 1 1 true) (alQ h61 (.cells .own 9 l62))) false) kp)) fun l46 h47=>
p_loadN 9 x9 h47 fun x68 b69=>
p_store 9 x0 x68 h47 fun h70 b71=>
p_loadN 9 x0 h70 fun x72 b73=>kr x72 h70) kp) kp) (nthV A 0)) (nthV A 0)) (.ptr h5.n (nat_lit 0)) (alQ h5 (.cells .own (nat_lit 0) [(vi 0),(vi 0),vS,(vi 0),(vi 0),(vi 0),(vi 0),(.int .u64 (.ofNat 0)),.nilSlice]))) (.agg l7)) kp) (.ptr h.n (nat_lit 0)) (alQ h (.cells .own (nat_lit 0) [(vi 0),(vi 0),vS,(vi 0),(vi 0),(vi 0),(vi 0),(.int .u64 (.ofNat 0)),.nilSlice]))) false
noncomputable def h179:FBody:=fun c D k A h kr kp=>ifB (Nat.beq (lenV A) 2) (
p_box (nthV A 0) h fun x0 h1=>
p_box (nthV A 1) h1 fun x2 h3=>
p_loadN 0 x0 h3 fun x4 b5=>
p_faddr 0 x2 fun x6=>
p_load1 x6 h3 fun x7 b8=>
p_eq x7 (vi 28) fun x9=>
joinV (fun j10=>p_no x9 (p_faddr 0 x2 fun x13=>
j10 x13 h3) (j10 undefA h3)) fun x11 h12=>
joinV (fun j14=>p_no x9 (p_load1 x11 h12 fun x17 b18=>
j14 x17 h12) (j14 undefA h12)) fun x15 h16=>
joinV (fun j19=>p_no x9 (p_eq x15 (vi 29) fun x22=>
j19 x22 h16) (j19 undefA h16)) fun x20 h21=>
p_pick x9 vT x20 fun x23=>
c 94 [x4,x23] h21 (fun x26 h27=>
p_loadN 0 x0 h27 fun x28 b29=>
p_loadN 9 x2 h27 fun x30 b31=>
c 57 [x28,x30] h27 (fun x34 h35=>
kr undefA h35) kp) kp) false
noncomputable def h183:FBody:=fun c D k A h kr kp=>ifB (Nat.beq (lenV A) 1) (
p_bin .sub fiSub (nthV A 0) (vi 1) fun x0=>
p_gen (.bin .and (.t 3) (.t 5)) [(3,(nthV A 0)),(5,x0)] h fun x1 h2 k3=>
p_eq x1 (vi 0) fun x4=>
kr x4 h2) false
noncomputable def h184:FBody:=fun c D k A h kr kp=>ifB (Nat.beq (lenV A) 1) (
joinL (fun j0=>p_if vF (
p_cvi .u32 (nthV A 0) fun x3=>
c 190 [x3] h (fun x6 h7=>
kr x6 h7) kp) (j0 [(vi 0)] h)) fun l1 h2=>
c 191 [(nthV A 0)] h2 (fun x10 h11=>
kr x10 h11) kp) false
noncomputable def h187:FBody:=fun c D k A h kr kp=>ifB (Nat.beq (lenV A) 1) (
(fun (x0:AV) (h1:AHeap)=>
(fun (x2:AV)=>onFill [(0,1,(.str [42])),(1,1,(.str [47])),(2,1,(.str [37]))] [vS,vS,vS] fun l3=>ifB (flatsQ l3) ((fun (x4:AV) (h5:AHeap)=>
c 104 [(nthV A 0),x2,vT,x4] h5 (fun x8 h9=>
p_store 9 x0 x8 h9 fun h10 b11=>
p_loadN 9 x0 h10 fun x12 b13=>kr x12 h10) kp) (.slice h1.n (nat_lit 0) 3 3 true) (alQ h1 (.cells .own 1 l3))) false) (.func (.func 192) [(nthV A 0)] [])) (.ptr h.n (nat_lit 0)) (alQ h (.cells .own (nat_lit 0) [(vi 0),(vi 0),vS,(vi 0),(vi 0),(vi 0),(vi 0),(.int .u64 (.ofNat 0)),.nilSlice]))) false
noncomputable def h189:FBody:=fun c D k A h kr kp=>ifB (Nat.beq (lenV A) 1) (
(fun (x0:AV) (h1:AHeap)=>
c 87 [(nthV A 0),(vi 1)] h1 (fun x4 h5=>
(fun (x6:AV) (h7:AHeap)=>
p_store 5 x6 x4 h7 fun h8 b9=>
p_faddr 4 x6 fun x10=>
p_load1 x10 h8 fun x11 b12=>
p_faddr 1 x6 fun x13=>
p_load1 x13 h8 fun x14 b15=>
onFill [(0,1,(vi 28)),(1,1,x11),(2,1,x14)] [(vi 0),(vi 0),vS,(vi 0),(vi 0),(vi 0),(vi 0),(.int .u64 (.ofNat 0)),.nilSlice] fun l16=>(fun (x17:AV)=>(fun (x18:AV) (h19:AHeap)=>
p_store 9 x18 x17 h19 fun h20 b21=>
onFill [(0,1,(.str [91]))] [vS] fun l22=>ifB (flatsQ l22) ((fun (x23:AV) (h24:AHeap)=>
c 86 [(nthV A 0),x23] h24 (fun x27 h28=>
joinL (fun j29=>p_if x27 (
p_faddr 0 x18 fun x32=>
p_store 1 x32 (vi 29) h28 fun h33 b34=>
c 136 [(nthV A 0),(.str [91])] h33 (fun x37 h38=>
c 59 [(nthV A 0)] h38 (fun x41 h42=>
onFill [(0,9,x41)] [(vi 0),(vi 0),vS,(vi 0),(vi 0),(vi 0),(vi 0),(.int .u64 (.ofNat 0)),.nilSlice] fun l43=>ifB (flatsQ l43) ((fun (x44:AV) (h45:AHeap)=>
p_faddr 8 x18 fun x46=>
p_store 1 x46 x44 h45 fun h47 b48=>
c 138 [(nthV A 0),(.str [93])] h47 (fun x51 h52=>
j29 [] h52) kp) (.slice h42.n (nat_lit 0) 1 1 true) (alQ h42 (.cells .own 9 l43))) false) kp) kp) (j29 [] h28)) fun l30 h31=>
p_loadN 9 x18 h31 fun x53 b54=>
p_store 9 x0 x53 h31 fun h55 b56=>
p_loadN 9 x0 h55 fun x57 b58=>kr x57 h55) kp) (.slice h20.n (nat_lit 0) 1 1 true) (alQ h20 (.cells .own 1 l22))) false) (.ptr h8.n (nat_lit 0)) (alQ h8 (.cells .own (nat_lit 0) [(vi 0),(vi 0),vS,(vi 0),(vi 0),(vi 0),(vi 0),(.int .u64 (.ofNat 0)),.nilSlice]))) (.agg l16)) (.ptr h5.n (nat_lit 0)) (alQ h5 (.cells .own (nat_lit 0) [(vi 0),vS,(vi 0),(.int .u64 (.ofNat 0)),(vi 0)]))) kp) (.ptr h.n (nat_lit 0)) (alQ h (.cells .own (nat_lit 0) [(vi 0),(vi 0),vS,(vi 0),(vi 0),(vi 0),(vi 0),(.int .u64 (.ofNat 0)),.nilSlice]))) false
noncomputable def h190:FBody:=fun c D k A h kr kp=>ifB (Nat.beq (lenV A) 1) (
p_eq (nthV A 0) (.int .u32 (.ofNat 0)) fun x0=>
joinL (fun j1=>p_if x0 (
kr (vi 32) h) (j1 [(vi 0)] h)) fun l2 h3=>
p_gen (.un .neg (.t 6)) [(6,(nthV A 0))] h3 fun x4 h5 k6=>
p_gen (.bin .and (.t 5) (.t 7)) [(5,(nthV A 0)),(7,x4)] h5 fun x7 h8 k9=>
p_gen (.bin .mul (.t 8) (.c (.int .u32 (.ofNat 125613361)))) [(8,x7)] h8 fun x10 h11 k12=>
p_gen (.bin .shr (.t 9) (.c (.int .u64 (.ofNat 27)))) [(9,x10)] h11 fun x13 h14 k15=>
p_gen (.iarr 32 1 (.c (.ptr 19 0)) (.t 10)) [(10,x13)] h14 fun x16 h17 k18=>
p_load1 x16 h17 fun x19 b20=>
p_cvi .i64 x19 fun x21=>
kr x21 h17) false
noncomputable def h191:FBody:=fun c D k A h kr kp=>ifB (Nat.beq (lenV A) 1) (
p_eq (nthV A 0) (.int .u64 (.ofNat 0)) fun x0=>
joinL (fun j1=>p_if x0 (
kr (vi 64) h) (j1 [(vi 0)] h)) fun l2 h3=>
p_gen (.un .neg (.t 6)) [(6,(nthV A 0))] h3 fun x4 h5 k6=>
p_gen (.bin .and (.t 5) (.t 7)) [(5,(nthV A 0)),(7,x4)] h5 fun x7 h8 k9=>
p_gen (.bin .mul (.t 8) (.c (.int .u64 (.ofNat 285870213051353865)))) [(8,x7)] h8 fun x10 h11 k12=>
p_gen (.bin .shr (.t 9) (.c (.int .u64 (.ofNat 58)))) [(9,x10)] h11 fun x13 h14 k15=>
p_gen (.iarr 64 1 (.c (.ptr 20 0)) (.t 10)) [(10,x13)] h14 fun x16 h17 k18=>
p_load1 x16 h17 fun x19 b20=>
p_cvi .i64 x19 fun x21=>
kr x21 h17) false
noncomputable def h192:FBody:=fun c D k A h kr kp=>ifB (Nat.beq (lenV A) 1) (
(fun (x0:AV) (h1:AHeap)=>
onFill [(0,1,(.str [45])),(1,1,(.str [33]))] [vS,vS] fun l2=>ifB (flatsQ l2) ((fun (x3:AV) (h4:AHeap)=>
c 86 [(nthV A 0),x3] h4 (fun x7 h8=>
p_not x7 fun x9=>
joinL (fun j10=>p_if x9 (
c 193 [(nthV A 0)] h8 (fun x15 h16=>
p_store 9 x0 x15 h16 fun h17 b18=>
p_loadN 9 x0 h17 fun x19 b20=>kr x19 h17) kp) (j10 [] h8)) fun l11 h12=>
c 48 [(nthV A 0)] h12 (fun x23 h24=>
p_fld x23 1 fun x25=>
c 136 [(nthV A 0),x25] h24 (fun x28 h29=>
(fun (x30:AV) (h31:AHeap)=>
p_store 5 x30 x28 h31 fun h32 b33=>
(fun (x34:AV) (h35:AHeap)=>
p_faddr 4 x30 fun x36=>
p_load1 x36 h35 fun x37 b38=>
ifB (okAll (.rd b38) h35 h35 [⟨8,.new,h32,h35⟩]) (
p_faddr 1 x30 fun x39=>
p_load1 x39 h35 fun x40 b41=>
ifB (okAll (.rd b41) h35 h35 [⟨1,(.rd b38),h35,h35⟩,⟨8,.new,h32,h35⟩]) (
c 192 [(nthV A 0)] h35 (fun x44 h45=>
ifB (okAll .big h35 h45 [⟨3,(.rd b41),h35,h35⟩,⟨1,(.rd b38),h35,h35⟩,⟨8,.new,h32,h35⟩]) (
onFill [(0,9,x44)] [(vi 0),(vi 0),vS,(vi 0),(vi 0),(vi 0),(vi 0),(.int .u64 (.ofNat 0)),.nilSlice] fun l46=>ifB (flatsQ l46) ((fun (x47:AV) (h48:AHeap)=>
ifB (okAll .new h45 h48 [⟨3,(.rd b41),h35,h35⟩,⟨1,(.rd b38),h35,h35⟩,⟨8,.new,h32,h35⟩]) (
onFill [(0,1,(vi 30)),(1,1,x37),(2,1,x40),(8,1,x47)] [(vi 0),(vi 0),vS,(vi 0),(vi 0),(vi 0),(vi 0),(.int .u64 (.ofNat 0)),.nilSlice] fun l49=>(fun (x50:AV)=>ifB (okAll .free h48 h48 [⟨8,.new,h32,h35⟩]) (
p_store 9 x34 x50 h48 fun h51 b52=>
asNil (
p_faddr 2 (nthV A 0) fun x53=>
p_load1 x53 h51 fun x54 b55=>
p_bin .sub fiSub x54 (vi 1) fun x56=>
asNil (
p_faddr 2 (nthV A 0) fun x57=>
p_store 1 x57 x56 h51 fun h58 b59=>
p_loadN 9 x34 h58 fun x60 b61=>
p_store 9 x0 x60 h58 fun h62 b63=>
p_loadN 9 x0 h62 fun x64 b65=>kr x64 h62) (nthV A 0)) (nthV A 0)) false) (.agg l49)) false) (.slice h45.n (nat_lit 0) 1 1 true) (alQ h45 (.cells .own 9 l46))) false) false) (fun p42 h43=>ifB (okAll .big h35 h43 [⟨3,(.rd b41),h35,h35⟩,⟨1,(.rd b38),h35,h35⟩,⟨8,.new,h32,h35⟩]) (
kp p42 h43) false)) false) false) (.ptr h32.n (nat_lit 0)) (alQ h32 (.cells .own (nat_lit 0) [(vi 0),(vi 0),vS,(vi 0),(vi 0),(vi 0),(vi 0),(.int .u64 (.ofNat 0)),.nilSlice]))) (.ptr h29.n (nat_lit 0)) (alQ h29 (.cells .own (nat_lit 0) [(vi 0),vS,(vi 0),(.int .u64 (.ofNat 0)),(vi 0)]))) kp) kp) kp) (.slice h1.n (nat_lit 0) 2 2 true) (alQ h1 (.cells .own 1 l2))) false) (.ptr h.n (nat_lit 0)) (alQ h (.cells .own (nat_lit 0) [(vi 0),(vi 0),vS,(vi 0),(vi 0),(vi 0),(vi 0),(.int .u64 (.ofNat 0)),.nilSlice]))) false
noncomputable def h193:FBody:=fun c D k A h kr kp=>ifB (Nat.beq (lenV A) 1) (
(fun (x0:AV) (h1:AHeap)=>
c 48 [(nthV A 0)] h1 (fun x4 h5=>
(fun (x6:AV) (h7:AHeap)=>
p_store 5 x6 x4 h7 fun h8 b9=>
joinL (fun j10=>
p_faddr 0 x6 fun x13=>
p_load1 x13 h8 fun x14 b15=>
p_eq x14 (vi 3) fun x16=>
p_if x16 (p_faddr 4 x6 fun x17=>
p_load1 x17 h8 fun x18 b19=>
c 87 [(nthV A 0),(vi 3)] h8 (fun x22 h23=>
ifB (okAll .big h8 h23 [⟨1,(.rd b19),h8,h8⟩]) (
p_fld x22 2 fun x24=>
onFill [(0,1,(vi 25)),(1,1,x18),(4,1,x24)] [(vi 0),(vi 0),vS,(vi 0),(vi 0),(vi 0),(vi 0),(.int .u64 (.ofNat 0)),.nilSlice] fun l25=>(fun (x26:AV)=>p_store 9 x0 x26 h23 fun h27 b28=>
p_loadN 9 x0 h27 fun x29 b30=>kr x29 h27) (.agg l25)) false) (fun p20 h21=>ifB (okAll .big h8 h21 [⟨1,(.rd b19),h8,h8⟩]) (
kp p20 h21) false)) (p_faddr 0 x6 fun x31=>
p_load1 x31 h8 fun x32 b33=>
p_eq x32 (vi 4) fun x34=>
p_if x34 (p_faddr 4 x6 fun x35=>
p_load1 x35 h8 fun x36 b37=>
c 87 [(nthV A 0),(vi 4)] h8 (fun x40 h41=>
ifB (okAll .big h8 h41 [⟨1,(.rd b37),h8,h8⟩]) (
p_fld x40 3 fun x42=>
onFill [(0,1,(vi 26)),(1,1,x36),(7,1,x42)] [(vi 0),(vi 0),vS,(vi 0),(vi 0),(vi 0),(vi 0),(.int .u64 (.ofNat 0)),.nilSlice] fun l43=>(fun (x44:AV)=>p_store 9 x0 x44 h41 fun h45 b46=>
p_loadN 9 x0 h45 fun x47 b48=>kr x47 h45) (.agg l43)) false) (fun p38 h39=>ifB (okAll .big h8 h39 [⟨1,(.rd b37),h8,h8⟩]) (
kp p38 h39) false)) (p_faddr 0 x6 fun x49=>
p_load1 x49 h8 fun x50 b51=>
p_eq x50 (vi 1) fun x52=>
p_if x52 (c 189 [(nthV A 0)] h8 (fun x55 h56=>
p_store 9 x0 x55 h56 fun h57 b58=>
p_loadN 9 x0 h57 fun x59 b60=>kr x59 h57) kp) (c 135 [(nthV A 0),(.str [116,114,117,101])] h8 (fun x63 h64=>
p_if x63 (p_faddr 4 x6 fun x65=>
p_load1 x65 h64 fun x66 b67=>
onFill [(0,1,(vi 27)),(1,1,x66),(4,1,(vi 1))] [(vi 0),(vi 0),vS,(vi 0),(vi 0),(vi 0),(vi 0),(.int .u64 (.ofNat 0)),.nilSlice] fun l68=>(fun (x69:AV)=>p_store 9 x0 x69 h64 fun h70 b71=>
p_loadN 9 x0 h70 fun x72 b73=>kr x72 h70) (.agg l68)) (c 135 [(nthV A 0),(.str [102,97,108,115,101])] h64 (fun x76 h77=>
p_if x76 (p_faddr 4 x6 fun x78=>
p_load1 x78 h77 fun x79 b80=>
onFill [(0,1,(vi 27)),(1,1,x79)] [(vi 0),(vi 0),vS,(vi 0),(vi 0),(vi 0),(vi 0),(.int .u64 (.ofNat 0)),.nilSlice] fun l81=>(fun (x82:AV)=>p_store 9 x0 x82 h77 fun h83 b84=>
p_loadN 9 x0 h83 fun x85 b86=>kr x85 h83) (.agg l81)) (onFill [(0,1,(.str [105,110,116])),(1,1,(.str [102,108,111,97,116]))] [vS,vS] fun l87=>ifB (flatsQ l87) ((fun (x88:AV) (h89:AHeap)=>
c 86 [(nthV A 0),x88] h89 (fun x92 h93=>
p_if x92 (asNil (
p_faddr 0 (nthV A 0) fun x94=>
p_load1 x94 h93 fun x95 b96=>
p_gen (.slc 5 (.t 54) (some (.c (vi 1))) none none) [(54,x95)] h93 fun x97 h98 k99=>
asNil (
p_faddr 0 (nthV A 0) fun x100=>
p_store 1 x100 x97 h98 fun h101 b102=>
c 136 [(nthV A 0),(.str [40])] h101 (fun x105 h106=>
(fun (x107:AV) (h108:AHeap)=>
p_faddr 4 x6 fun x109=>
p_load1 x109 h108 fun x110 b111=>
ifB (okAll (.rd b111) h108 h108 [⟨8,.new,h106,h108⟩]) (
p_faddr 1 x6 fun x112=>
p_load1 x112 h108 fun x113 b114=>
ifB (okAll (.rd b114) h108 h108 [⟨1,(.rd b111),h108,h108⟩,⟨8,.new,h106,h108⟩]) (
c 59 [(nthV A 0)] h108 (fun x117 h118=>
ifB (okAll .big h108 h118 [⟨3,(.rd b114),h108,h108⟩,⟨1,(.rd b111),h108,h108⟩,⟨8,.new,h106,h108⟩]) (
onFill [(0,9,x117)] [(vi 0),(vi 0),vS,(vi 0),(vi 0),(vi 0),(vi 0),(.int .u64 (.ofNat 0)),.nilSlice] fun l119=>ifB (flatsQ l119) ((fun (x120:AV) (h121:AHeap)=>
ifB (okAll .new h118 h121 [⟨3,(.rd b114),h108,h108⟩,⟨1,(.rd b111),h108,h108⟩,⟨8,.new,h106,h108⟩]) (
onFill [(0,1,(vi 30)),(1,1,x110),(2,1,x113),(8,1,x120)] [(vi 0),(vi 0),vS,(vi 0),(vi 0),(vi 0),(vi 0),(.int .u64 (.ofNat 0)),.nilSlice] fun l122=>(fun (x123:AV)=>ifB (okAll .free h121 h121 [⟨8,.new,h106,h108⟩]) (
p_store 9 x107 x123 h121 fun h124 b125=>
c 138 [(nthV A 0),(.str [41])] h124 (fun x128 h129=>
p_loadN 9 x107 h129 fun x130 b131=>
p_store 9 x0 x130 h129 fun h132 b133=>
p_loadN 9 x0 h132 fun x134 b135=>kr x134 h132) kp) false) (.agg l122)) false) (.slice h118.n (nat_lit 0) 1 1 true) (alQ h118 (.cells .own 9 l119))) false) false) (fun p115 h116=>ifB (okAll .big h108 h116 [⟨3,(.rd b114),h108,h108⟩,⟨1,(.rd b111),h108,h108⟩,⟨8,.new,h106,h108⟩]) (
kp p115 h116) false)) false) false) (.ptr h106.n (nat_lit 0)) (alQ h106 (.cells .own (nat_lit 0) [(vi 0),(vi 0),vS,(vi 0),(vi 0),(vi 0),(vi 0),(.int .u64 (.ofNat 0)),.nilSlice]))) kp) (nthV A 0)) (nthV A 0)) (j10 [] h93)) kp) (.slice h77.n (nat_lit 0) 2 2 true) (alQ h77 (.cells .own 1 l87))) false)) kp)) kp)))) fun l11 h12=>
c 136 [(nthV A 0),(.str [40])] h12 (fun x138 h139=>
c 59 [(nthV A 0)] h139 (fun x142 h143=>
(fun (x144:AV) (h145:AHeap)=>
p_store 9 x144 x142 h145 fun h146 b147=>
c 138 [(nthV A 0),(.str [41])] h146 (fun x150 h151=>
p_loadN 9 x144 h151 fun x152 b153=>
p_store 9 x0 x152 h151 fun h154 b155=>
p_loadN 9 x0 h154 fun x156 b157=>kr x156 h154) kp) (.ptr h143.n (nat_lit 0)) (alQ h143 (.cells .own (nat_lit 0) [(vi 0),(vi 0),vS,(vi 0),(vi 0),(vi 0),(vi 0),(.int .u64 (.ofNat 0)),.nilSlice]))) kp) kp) (.ptr h5.n (nat_lit 0)) (alQ h5 (.cells .own (nat_lit 0) [(vi 0),vS,(vi 0),(.int .u64 (.ofNat 0)),(vi 0)]))) kp) (.ptr h.n (nat_lit 0)) (alQ h (.cells .own (nat_lit 0) [(vi 0),(vi 0),vS,(vi 0),(vi 0),(vi 0),(vi 0),(.int .u64 (.ofNat 0)),.nilSlice]))) false
end Go.Ev
