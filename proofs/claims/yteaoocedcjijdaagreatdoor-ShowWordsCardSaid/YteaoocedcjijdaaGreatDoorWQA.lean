/- Functions of the program, as the evaluator reads them: printed by program. -/
import Derived.Test.YteaoocedcjijdaaGreatDoorEvC
set_option linter.all false
set_option linter.unusedVariables false
set_option linter.unusedSimpArgs false
namespace Go.Ev
/-- stockade/stockadelaw07.ShowWords -/
def m5 : MFun := .code 17 (
 .seq (.reg [oT 2 (.mov (.c (.bool false)))])
 (.seq (.seq (.reg [oT 3 (.call 20 []), oT 4 (.un .not (.t 3))])
 (.cond (.t 4)
  (.seq (.reg [oT 2 (.mov (.c (.bool false)))])
  (.ret))
  (.skip)))
 (.seq (.seq (.reg [oT 5 (.mov (.t 0)), oT 6 (.lenS (.t 5)), oT 7 (.bin .gtr (.t 6) (.c (.int .i64 1000)))])
 (.cond (.t 7)
  (.seq (.reg [oT 2 (.mov (.c (.bool true)))])
  (.ret))
  (.skip)))
 (.seq (.regD [oD 0 8 0 (.mov (.t 0)), oD 1 9 1 (.build [(.int .i64 0), (.int .i64 0), (.str []), (.int .i64 0), (.int .i64 0), (.int .i64 0), (.int .i64 0), (.int .u64 0), .nilSlice] [(0, 1, (.c (.int .i64 4))), (2, 1, (.t 8))]), oD 2 10 3 (.bslice 9 [(.int .i64 0), (.int .i64 0), (.str []), (.int .i64 0), (.int .i64 0), (.int .i64 0), (.int .i64 0), (.int .u64 0), .nilSlice] 1 [(0, 9, (.t 9))]), oD 3 11 7 (.build [(.int .i64 0), (.int .i64 0), (.str []), (.int .i64 0), (.int .i64 0), (.int .i64 0), (.int .i64 0), (.int .u64 0), .nilSlice] [(0, 1, (.c (.int .i64 1))), (8, 1, (.t 10))]), oD 4 12 15 (.call 21 [(.t 11)]), oD 5 13 31 (.eqv false (.one .iface) (.t 12) (.c .nilIface)), oD 6 14 0 (.mov (.t 0)), oD 7 15 95 (.call 22 [(.t 14)]), oD 8 16 255 (.eqv false (.one .bool) (.t 13) (.t 15)), oD 9 2 511 (.mov (.t 16))])
 (.ret))))) [.t 2]
/-- stockade/tree.Parse -/
def m18 : MFun := .code 8 (
 .seq (.reg [oT 2 (.new .own [(.int .i64 0), (.int .i64 0), (.str []), (.int .i64 0), (.int .i64 0), (.int .i64 0), (.int .i64 0), (.int .u64 0), .nilSlice]), oT 3 (.new .own [.nilIface, (.int .i64 0)])])
 (.seq (.reg [oT 4 (.mov (.t 0)), oT 5 (.call 46 [(.t 4), (.c (.func (.func 47) [] []))]), oT 6 (.ext (.t 5) 0), oT 7 (.ext (.t 5) 1), oN (.store 9 (.t 2) (.t 6)), oN (.store 2 (.t 3) (.t 7))])
 (.ret))) [.cell 2 true 9, .cell 3 true 2]
/-- stockade/stockadelaw07.alive -/
def m20 : MFun := .code 38 (
 .seq (.reg [oT 0 (.mov (.c (.bool false)))])
 (.seq (.reg [oT 8 (.call 25 [(.c (.str [40, 49, 43, 50, 41, 42, 51]))]), oT 7 (.mov (.t 8)), oT 9 (.ext (.t 7) 0), oT 10 (.ext (.t 7) 1), oT 1 (.new .own [(.int .i64 0), (.int .i64 0), (.str []), (.int .i64 0), (.int .i64 0), (.int .i64 0), (.int .i64 0), (.int .u64 0), .nilSlice]), oT 2 (.new .own [.nilIface, (.int .i64 0)]), oN (.store 9 (.t 1) (.t 9)), oN (.store 2 (.t 2) (.t 10))])
 (.seq (.seq (.reg [oT 11 (.faddr 0 (.t 2)), oT 12 (.load false 1 (.t 11)), oT 13 (.eqv true (.one .iface) (.t 12) (.c .nilIface))])
 (.cond (.t 13)
  (.seq (.reg [oT 0 (.mov (.c (.bool false)))])
  (.ret))
  (.skip)))
 (.seq (.reg [oT 15 (.load true 9 (.t 1)), oT 16 (.call 24 [(.t 15)]), oT 14 (.mov (.t 16)), oT 17 (.ext (.t 14) 0), oT 18 (.ext (.t 14) 1), oT 3 (.mov (.t 17)), oT 4 (.mov (.t 18))])
 (.seq (.reg [oT 20 (.call 50 [(.c (.str [118, 97, 114, 32, 120, 32, 105, 110, 116, 59, 102, 117, 110, 99, 32, 109, 97, 105, 110, 40, 41, 123, 120, 61, 49, 45, 40, 50, 45, 51, 41, 59, 125]))]), oT 19 (.mov (.t 20)), oT 21 (.ext (.t 19) 0), oT 22 (.ext (.t 19) 1), oT 6 (.new .own [.nilIface, (.int .i64 0)]), oT 5 (.mov (.t 21)), oN (.store 2 (.t 6) (.t 22))])
 (.seq (.reg [oT 23 (.mov (.t 4)), oT 24 (.eqv false (.one .iface) (.t 23) (.c .nilIface)), oT 25 (.mov (.t 24)), oG 26 25 (.mov (.t 3)), oG 27 25 (.bin .eql (.t 26) (.c (.str [40, 49, 32, 43, 32, 50, 41, 32, 42, 32, 51]))), oT 28 (.pick (.t 25) (.t 27) (.c (.bool false))), oT 29 (.mov (.t 28)), oG 30 29 (.faddr 0 (.t 6)), oG 31 29 (.load false 1 (.t 30)), oG 32 29 (.eqv false (.one .iface) (.t 31) (.c .nilIface)), oT 33 (.pick (.t 29) (.t 32) (.c (.bool false))), oT 34 (.mov (.t 33)), oG 35 34 (.mov (.t 5)), oG 36 34 (.bin .eql (.t 35) (.c (.str [118, 97, 114, 32, 120, 32, 105, 110, 116, 59, 10, 102, 117, 110, 99, 32, 109, 97, 105, 110, 40, 41, 32, 123, 10, 9, 120, 32, 61, 32, 49, 32, 45, 32, 40, 50, 32, 45, 32, 51, 41, 59, 10, 125, 10]))), oT 37 (.pick (.t 34) (.t 36) (.c (.bool false))), oT 0 (.mov (.t 37))])
 (.ret))))))) [.t 0]
/-- stockade/show.Check -/
def m21 : MFun := .code 5 (
 .seq (.reg [oT 1 (.box (.t 0)), oT 2 (.mov (.c .nilIface))])
 (.seq (.reg [oT 3 (.mkfn (.func 52) [] [(.t 1)]), oT 4 (.call 51 [(.t 3)]), oT 2 (.mov (.t 4))])
 (.ret))) [.t 2]
/-- stockade/stockaderef07.Word -/
def m22 : MFun := .code 58 (
 .seq (.reg [oT 2 (.mov (.c (.bool false)))])
 (.seq (.seq (.reg [oT 3 (.mov (.c (.int .i64 0)))])
 (.block 0 (.loop (.seq (.seq (.reg [oT 5 (.mov (.t 3)), oT 6 (.mov (.t 0)), oT 7 (.lenS (.t 6)), oT 8 (.bin .lss (.t 5) (.t 7))])
 (.cond (.t 8)
  (.skip)
  (.exit 0)))
 (.seq (.block 1 (.seq (.reg [oT 11 (.mov (.t 0)), oT 12 (.mov (.t 3)), oT 13 (.idxs (.t 11) (.t 12)), oT 4 (.mov (.t 13))])
 (.seq (.reg [oT 14 (.mov (.t 4)), oT 15 (.bin .geq (.t 14) (.c (.int .u8 97))), oT 16 (.mov (.t 15)), oG 17 16 (.mov (.t 4)), oG 18 16 (.bin .leq (.t 17) (.c (.int .u8 122))), oT 19 (.pick (.t 16) (.t 18) (.c (.bool false))), oT 20 (.mov (.t 19)), oH 21 20 (.mov (.t 4)), oH 22 20 (.bin .geq (.t 21) (.c (.int .u8 65))), oH 23 20 (.mov (.t 22)), oG 24 23 (.mov (.t 4)), oG 25 23 (.bin .leq (.t 24) (.c (.int .u8 90))), oH 26 20 (.pick (.t 23) (.t 25) (.c (.bool false))), oT 27 (.pick (.t 20) (.c (.bool true)) (.t 26)), oT 28 (.mov (.t 27)), oH 29 28 (.mov (.t 4)), oH 30 28 (.bin .eql (.t 29) (.c (.int .u8 95))), oT 31 (.pick (.t 28) (.c (.bool true)) (.t 30)), oT 32 (.mov (.t 31)), oH 33 32 (.mov (.t 3)), oH 34 32 (.bin .gtr (.t 33) (.c (.int .i64 0))), oH 35 32 (.mov (.t 34)), oG 36 35 (.mov (.t 4)), oG 37 35 (.bin .geq (.t 36) (.c (.int .u8 48))), oH 38 32 (.pick (.t 35) (.t 37) (.c (.bool false))), oH 39 32 (.mov (.t 38)), oG 40 39 (.mov (.t 4)), oG 41 39 (.bin .leq (.t 40) (.c (.int .u8 57))), oH 42 32 (.pick (.t 39) (.t 41) (.c (.bool false))), oT 43 (.pick (.t 32) (.c (.bool true)) (.t 42)), oT 44 (.un .not (.t 43))])
 (.cond (.t 44)
  (.seq (.reg [oT 2 (.mov (.c (.bool false)))])
  (.ret))
  (.skip)))))
 (.reg [oT 9 (.mov (.t 3)), oT 10 (.bin .add (.t 9) (.c (.int .i64 1))), oT 3 (.mov (.t 10))]))))))
 (.seq (.reg [oT 45 (.mov (.t 0)), oT 46 (.lenS (.t 45)), oT 47 (.bin .geq (.t 46) (.c (.int .i64 1))), oT 48 (.mov (.t 47)), oG 49 48 (.mov (.t 0)), oG 50 48 (.lenS (.t 49)), oG 51 48 (.bin .leq (.t 50) (.c (.int .i64 24))), oT 52 (.pick (.t 48) (.t 51) (.c (.bool false))), oT 53 (.mov (.t 52)), oG 54 53 (.mov (.t 0)), oG 55 53 (.call 54 [(.t 54)]), oG 56 53 (.un .not (.t 55)), oT 57 (.pick (.t 53) (.t 56) (.c (.bool false))), oT 2 (.mov (.t 57))])
 (.ret)))) [.t 2]
/-- stockade/show.Expr -/
def m24 : MFun := .code 12 (
 .seq (.reg [oT 1 (.box (.t 0)), oT 2 (.mov (.c (.str []))), oT 3 (.mov (.c .nilIface))])
 (.seq (.seq (.reg [oT 5 (.mkfn (.func 56) [] [(.t 1)]), oT 6 (.call 51 [(.t 5)]), oT 4 (.mov (.t 6))])
 (.seq (.reg [oT 7 (.mov (.t 4)), oT 8 (.eqv true (.one .iface) (.t 7) (.c .nilIface))])
 (.cond (.t 8)
  (.seq (.reg [oT 9 (.mov (.t 4)), oT 2 (.mov (.c (.str []))), oT 3 (.mov (.t 9))])
  (.ret))
  (.skip))))
 (.seq (.reg [oT 10 (.load true 9 (.t 1)), oT 11 (.call 58 [(.t 10)]), oT 2 (.mov (.t 11)), oT 3 (.mov (.c .nilIface))])
 (.ret)))) [.t 2, .t 3]
/-- stockade/tree.Expr -/
def m25 : MFun := .code 8 (
 .seq (.reg [oT 2 (.new .own [(.int .i64 0), (.int .i64 0), (.str []), (.int .i64 0), (.int .i64 0), (.int .i64 0), (.int .i64 0), (.int .u64 0), .nilSlice]), oT 3 (.new .own [.nilIface, (.int .i64 0)])])
 (.seq (.reg [oT 4 (.mov (.t 0)), oT 5 (.call 46 [(.t 4), (.c (.func (.func 59) [] []))]), oT 6 (.ext (.t 5) 0), oT 7 (.ext (.t 5) 1), oN (.store 9 (.t 2) (.t 6)), oN (.store 2 (.t 3) (.t 7))])
 (.ret))) [.cell 2 true 9, .cell 3 true 2]
/-- stockade/show.Text -/
def m29 : MFun := .code 25 (
 .seq (.reg [oT 1 (.box (.t 0)), oT 2 (.mov (.c (.str []))), oT 3 (.mov (.c .nilIface))])
 (.seq (.seq (.reg [oT 8 (.load true 9 (.t 1)), oT 9 (.call 21 [(.t 8)]), oT 4 (.mov (.t 9))])
 (.seq (.reg [oT 10 (.mov (.t 4)), oT 11 (.eqv true (.one .iface) (.t 10) (.c .nilIface))])
 (.cond (.t 11)
  (.seq (.reg [oT 12 (.mov (.t 4)), oT 2 (.mov (.c (.str []))), oT 3 (.mov (.t 12))])
  (.ret))
  (.skip))))
 (.seq (.reg [oT 5 (.new (.tag 111) [.nilPtr, .nilSlice, (.int .i64 0)])])
 (.seq (.seq (.reg [oT 13 (.faddr 8 (.t 1)), oT 14 (.load false 1 (.t 13)), oT 15 (.lenL (.t 14)), oT 16 (.mov (.c (.int .i64 0)))])
 (.block 0 (.loop (.seq (.reg [oT 17 (.bin .lss (.t 16) (.t 15))])
 (.seq (.cond (.t 17)
  (.skip)
  (.exit 0))
 (.seq (.block 1 (.seq (.reg [oT 18 (.iaddr 9 (.t 14) (.t 16)), oT 19 (.load true 9 (.t 18)), oT 7 (.new .own [(.int .i64 0), (.int .i64 0), (.str []), (.int .i64 0), (.int .i64 0), (.int .i64 0), (.int .i64 0), (.int .u64 0), .nilSlice]), oN (.store 9 (.t 7) (.t 19))])
 (.reg [oT 20 (.load true 9 (.t 7)), oT 21 (.call 64 [(.t 5), (.t 20)])])))
 (.reg [oT 22 (.bin .add (.t 16) (.c (.int .i64 1))), oT 16 (.mov (.t 22))])))))))
 (.seq (.reg [oT 23 (.faddr 0 (.t 5)), oT 24 (.call 65 [(.t 23)]), oT 2 (.mov (.t 24)), oT 3 (.mov (.c .nilIface))])
 (.ret)))))) [.t 2, .t 3]
/-- stockade/token.Tokens -/
def m33 : MFun := .code 42 (
 .seq (.reg [oT 2 (.new .own [.nilSlice]), oT 3 (.new .own [.nilIface, (.int .i64 0)])])
 (.seq (.seq (.reg [oT 5 (.mov (.t 0)), oT 6 (.lenS (.t 5)), oT 7 (.bin .gtr (.t 6) (.c (.int .i64 8192)))])
 (.cond (.t 7)
  (.seq (.regD [oD 0 8 0 (.load false 1 (.c (.ptr 7 0))), oD 1 9 1 (.build [.nilIface, (.int .i64 0)] [(0, 1, (.t 8))]), oE 2 0 (.store 1 (.t 2) (.c .nilSlice)), oE 3 7 (.store 2 (.t 3) (.t 9))])
  (.ret))
  (.skip)))
 (.seq (.reg [oT 10 (.mkfn (.func 70) [] [(.t 2), (.t 3)]), oN (.defer (.t 10))])
 (.seq (.reg [oT 11 (.mov (.t 0)), oT 12 (.build [(.str []), (.int .i64 0)] [(0, 1, (.t 11))]), oT 13 (.box (.t 12)), oT 4 (.mov (.t 13))])
 (.seq (.seq (.reg [oT 14 (.mov (.t 4)), oT 15 (.call 71 [(.t 14)])])
 (.block 0 (.loop (.seq (.seq (.reg [oT 16 (.mov (.t 4)), oT 17 (.nilck (.t 16)), oT 18 (.faddr 1 (.t 17)), oT 19 (.load false 1 (.t 18)), oT 20 (.mov (.t 0)), oT 21 (.lenS (.t 20)), oT 22 (.bin .lss (.t 19) (.t 21))])
 (.cond (.t 22)
  (.skip)
  (.exit 0)))
 (.seq (.block 1 (.seq (.seq (.reg [oT 25 (.load false 1 (.t 2)), oT 26 (.lenL (.t 25)), oT 27 (.bin .eql (.t 26) (.c (.int .i64 2000)))])
 (.cond (.t 27)
  (.regD [oD 0 28 0 (.mov (.t 4)), oD 1 29 0 (.load false 1 (.c (.ptr 7 0))), oD 2 30 0 (.mov (.t 4)), oD 3 31 4 (.nilck (.t 30)), oD 4 32 12 (.faddr 1 (.t 31)), oD 5 33 28 (.load false 1 (.t 32)), oD 6 34 63 (.call 72 [(.t 28), (.t 29), (.t 33)])])
  (.skip)))
 (.regD [oD 0 35 0 (.load false 1 (.t 2)), oD 1 36 0 (.mov (.t 4)), oD 2 37 2 (.call 73 [(.t 36)]), oD 3 38 6 (.bslice 5 [(.int .i64 0), (.str []), (.int .i64 0), (.int .u64 0), (.int .i64 0)] 1 [(0, 5, (.t 37))]), oD 4 39 15 (.append .own 5 48 (.t 35) (.t 38)), oE 5 31 (.store 1 (.t 2) (.t 39))])))
 (.reg [oT 23 (.mov (.t 4)), oT 24 (.call 71 [(.t 23)])]))))))
 (.seq (.reg [oT 40 (.load false 1 (.t 2)), oT 41 (.build [.nilIface, (.int .i64 0)] []), oN (.store 1 (.t 2) (.t 40)), oN (.store 2 (.t 3) (.t 41))])
 (.ret))))))) [.cell 2 false 1, .cell 3 true 2]
/-- stockade/tree.read -/
def m46 : MFun := .code 37 (
 .seq (.reg [oT 4 (.new .own [(.int .i64 0), (.int .i64 0), (.str []), (.int .i64 0), (.int .i64 0), (.int .i64 0), (.int .i64 0), (.int .u64 0), .nilSlice]), oT 5 (.new .own [.nilIface, (.int .i64 0)])])
 (.seq (.reg [oT 9 (.mov (.t 0)), oT 10 (.call 33 [(.t 9)]), oT 8 (.mov (.t 10)), oT 11 (.ext (.t 8) 0), oT 12 (.ext (.t 8) 1), oT 6 (.mov (.t 11)), oN (.store 2 (.t 5) (.t 12))])
 (.seq (.seq (.reg [oT 13 (.faddr 0 (.t 5)), oT 14 (.load false 1 (.t 13)), oT 15 (.eqv true (.one .iface) (.t 14) (.c .nilIface))])
 (.cond (.t 15)
  (.seq (.regD [oD 0 16 0 (.load true 9 (.t 4)), oD 1 17 0 (.load true 2 (.t 5)), oE 2 1 (.store 9 (.t 4) (.t 16)), oE 3 7 (.store 2 (.t 5) (.t 17))])
  (.ret))
  (.skip)))
 (.seq (.reg [oT 18 (.mkfn (.func 84) [] [(.t 4), (.t 5)]), oN (.defer (.t 18))])
 (.seq (.reg [oT 19 (.mov (.t 6)), oT 20 (.mov (.t 0)), oT 21 (.lenS (.t 20)), oT 22 (.build [.nilSlice, (.int .i64 0), (.int .i64 0)] [(0, 1, (.t 19)), (1, 1, (.t 21))]), oT 23 (.box (.t 22)), oT 7 (.mov (.t 23))])
 (.seq (.reg [oT 24 (.mov (.t 1)), oT 25 (.mov (.t 7)), oT 26 (.callv (.t 24) [(.t 25)]), oN (.store 9 (.t 4) (.t 26))])
 (.seq (.seq (.reg [oT 27 (.mov (.t 7)), oT 28 (.nilck (.t 27)), oT 29 (.faddr 0 (.t 28)), oT 30 (.load false 1 (.t 29)), oT 31 (.lenL (.t 30)), oT 32 (.bin .gtr (.t 31) (.c (.int .i64 0)))])
 (.cond (.t 32)
  (.reg [oT 33 (.mov (.t 7)), oT 34 (.call 85 [(.t 33)])])
  (.skip)))
 (.seq (.reg [oT 35 (.load true 9 (.t 4)), oT 36 (.build [.nilIface, (.int .i64 0)] []), oN (.store 9 (.t 4) (.t 35)), oN (.store 2 (.t 5) (.t 36))])
 (.ret))))))))) [.cell 4 true 9, .cell 5 true 2]
/-- stockade/tree.Parse$1 -/
def m47 : MFun := .code 22 (
 .seq (.reg [oT 2 (.new .own [(.int .i64 0), (.int .i64 0), (.str []), (.int .i64 0), (.int .i64 0), (.int .i64 0), (.int .i64 0), (.int .u64 0), .nilSlice])])
 (.seq (.reg [oT 4 (.mov (.t 0)), oT 5 (.call 48 [(.t 4)]), oT 6 (.fld false 4 1 (.t 5)), oT 7 (.build [(.int .i64 0), (.int .i64 0), (.str []), (.int .i64 0), (.int .i64 0), (.int .i64 0), (.int .i64 0), (.int .u64 0), .nilSlice] [(0, 1, (.c (.int .i64 1))), (1, 1, (.t 6))]), oT 3 (.new .own [(.int .i64 0), (.int .i64 0), (.str []), (.int .i64 0), (.int .i64 0), (.int .i64 0), (.int .i64 0), (.int .u64 0), .nilSlice]), oN (.store 9 (.t 3) (.t 7))])
 (.seq (.block 0 (.loop (.seq (.seq (.reg [oT 8 (.mov (.t 0)), oT 9 (.nilck (.t 8)), oT 10 (.faddr 0 (.t 9)), oT 11 (.load false 1 (.t 10)), oT 12 (.lenL (.t 11)), oT 13 (.bin .gtr (.t 12) (.c (.int .i64 0)))])
 (.cond (.t 13)
  (.skip)
  (.exit 0)))
 (.block 1 (.regD [oD 0 14 0 (.faddr 8 (.t 3)), oD 1 15 1 (.load false 1 (.t 14)), oD 2 16 0 (.mov (.t 0)), oD 3 17 4 (.call 49 [(.t 16)]), oD 4 18 12 (.bslice 9 [(.int .i64 0), (.int .i64 0), (.str []), (.int .i64 0), (.int .i64 0), (.int .i64 0), (.int .i64 0), (.int .u64 0), .nilSlice] 1 [(0, 9, (.t 17))]), oD 5 19 31 (.append .own 9 96 (.t 15) (.t 18)), oD 6 20 63 (.faddr 8 (.t 3)), oE 7 127 (.store 1 (.t 20) (.t 19))])))))
 (.seq (.reg [oT 21 (.load true 9 (.t 3)), oN (.store 9 (.t 2) (.t 21))])
 (.ret))))) [.cell 2 true 9]
/-- (*stockade/tree.parser).here -/
def m48 : MFun := .code 20 (
 .seq (.reg [oT 2 (.new .own [(.int .i64 0), (.str []), (.int .i64 0), (.int .u64 0), (.int .i64 0)])])
 (.seq (.seq (.reg [oT 3 (.mov (.t 0)), oT 4 (.nilck (.t 3)), oT 5 (.faddr 0 (.t 4)), oT 6 (.load false 1 (.t 5)), oT 7 (.lenL (.t 6)), oT 8 (.bin .eql (.t 7) (.c (.int .i64 0)))])
 (.cond (.t 8)
  (.seq (.reg [oT 9 (.mov (.t 0)), oT 10 (.nilck (.t 9)), oT 11 (.faddr 1 (.t 10)), oT 12 (.load false 1 (.t 11)), oT 13 (.build [(.int .i64 0), (.str []), (.int .i64 0), (.int .u64 0), (.int .i64 0)] [(4, 1, (.t 12))]), oN (.store 5 (.t 2) (.t 13))])
  (.ret))
  (.skip)))
 (.seq (.reg [oT 14 (.mov (.t 0)), oT 15 (.nilck (.t 14)), oT 16 (.faddr 0 (.t 15)), oT 17 (.load false 1 (.t 16)), oT 18 (.iaddr 5 (.t 17) (.c (.int .i64 0))), oT 19 (.load true 5 (.t 18)), oN (.store 5 (.t 2) (.t 19))])
 (.ret)))) [.cell 2 true 5]
/-- (*stockade/tree.parser).decl -/
def m49 : MFun := .code 73 (
 .seq (.reg [oT 2 (.new .own [(.int .i64 0), (.int .i64 0), (.str []), (.int .i64 0), (.int .i64 0), (.int .i64 0), (.int .i64 0), (.int .u64 0), .nilSlice])])
 (.seq (.reg [oT 5 (.mov (.t 0)), oT 6 (.call 48 [(.t 5)]), oT 3 (.new .own [(.int .i64 0), (.str []), (.int .i64 0), (.int .u64 0), (.int .i64 0)]), oN (.store 5 (.t 3) (.t 6))])
 (.seq (.seq (.reg [oT 7 (.mov (.t 0)), oT 8 (.bslice 1 [(.str []), (.str []), (.str []), (.str []), (.str [])] 5 [(0, 1, (.c (.str [118, 97, 114]))), (1, 1, (.c (.str [109, 117, 116, 101, 120]))), (2, 1, (.c (.str [99, 104, 97, 110]))), (3, 1, (.c (.str [97, 116, 111, 109, 105, 99]))), (4, 1, (.c (.str [102, 117, 110, 99])))]), oT 9 (.call 86 [(.t 7), (.t 8)]), oT 10 (.un .not (.t 9))])
 (.cond (.t 10)
  (.reg [oT 11 (.mov (.t 0)), oT 12 (.call 85 [(.t 11)])])
  (.skip)))
 (.seq (.reg [oT 13 (.mov (.t 0)), oT 14 (.mov (.t 0)), oT 15 (.nilck (.t 14)), oT 16 (.faddr 0 (.t 15)), oT 17 (.load false 1 (.t 16)), oT 18 (.slc 5 (.t 17) (some (.c (.int .i64 1))) none none), oT 19 (.nilck (.t 13)), oT 20 (.faddr 0 (.t 19)), oN (.store 1 (.t 20) (.t 18))])
 (.seq (.regD [oD 6 4 0 (.new .own [(.int .i64 0), (.int .i64 0), (.str []), (.int .i64 0), (.int .i64 0), (.int .i64 0), (.int .i64 0), (.int .u64 0), .nilSlice]), oD 0 21 0 (.faddr 4 (.t 3)), oD 1 22 1 (.load false 1 (.t 21)), oD 2 23 0 (.mov (.t 0)), oD 3 24 4 (.call 87 [(.t 23), (.c (.int .i64 1))]), oD 4 25 12 (.fld false 1 1 (.t 24)), oD 5 26 31 (.build [(.int .i64 0), (.int .i64 0), (.str []), (.int .i64 0), (.int .i64 0), (.int .i64 0), (.int .i64 0), (.int .u64 0), .nilSlice] [(1, 1, (.t 22)), (2, 1, (.t 25))]), oE 7 127 (.store 9 (.t 4) (.t 26))])
 (.seq (.seq (.reg [oT 27 (.faddr 1 (.t 3)), oT 28 (.load false 1 (.t 27))])
 (.block 0 (.seq (.reg [oT 41 (.bin .eql (.t 28) (.c (.str [109, 117, 116, 101, 120]))), oT 40 (.mov (.t 41))])
 (.cond (.t 40)
  (.reg [oT 42 (.faddr 0 (.t 4)), oN (.store 1 (.t 42) (.c (.int .i64 4)))])
  (.seq (.reg [oT 44 (.bin .eql (.t 28) (.c (.str [97, 116, 111, 109, 105, 99]))), oT 43 (.mov (.t 44))])
  (.cond (.t 43)
   (.reg [oT 45 (.faddr 0 (.t 4)), oN (.store 1 (.t 45) (.c (.int .i64 6)))])
   (.seq (.reg [oT 47 (.bin .eql (.t 28) (.c (.str [99, 104, 97, 110]))), oT 46 (.mov (.t 47))])
   (.cond (.t 46)
    (.seq (.reg [oT 48 (.mov (.t 0)), oT 49 (.call 88 [(.t 48)]), oT 50 (.faddr 0 (.t 4)), oN (.store 1 (.t 50) (.c (.int .i64 5))), oT 51 (.faddr 4 (.t 4)), oN (.store 1 (.t 51) (.t 49))])
    (.reg [oT 52 (.mov (.t 0)), oT 53 (.call 89 [(.t 52)]), oT 54 (.faddr 3 (.t 4)), oN (.store 1 (.t 54) (.t 53))]))
    (.seq (.reg [oT 56 (.bin .eql (.t 28) (.c (.str [102, 117, 110, 99]))), oT 55 (.mov (.t 56))])
    (.cond (.t 55)
     (.seq (.reg [oT 57 (.faddr 0 (.t 4)), oN (.store 1 (.t 57) (.c (.int .i64 7)))])
     (.seq (.reg [oT 58 (.mov (.t 0)), oT 59 (.call 90 [(.t 58), (.t 4)])])
     (.seq (.regD [oD 5 65 0 (.bslice 9 [(.int .i64 0), (.int .i64 0), (.str []), (.int .i64 0), (.int .i64 0), (.int .i64 0), (.int .i64 0), (.int .u64 0), .nilSlice] 1 [(0, 9, (.c (.agg [(.int .i64 0), (.int .i64 0), (.str []), (.int .i64 0), (.int .i64 0), (.int .i64 0), (.int .i64 0), (.int .u64 0), .nilSlice])))]), oD 0 60 0 (.faddr 8 (.t 4)), oD 1 61 1 (.load false 1 (.t 60)), oD 2 62 0 (.mov (.t 0)), oD 3 63 4 (.call 91 [(.t 62)]), oD 4 64 3 (.lenL (.t 61)), oD 6 66 63 (.append .own 9 96 (.t 61) (.t 65)), oD 7 67 127 (.iaddr 9 (.t 66) (.t 64)), oE 8 255 (.store 9 (.t 67) (.t 63)), oD 9 68 127 (.faddr 8 (.t 4)), oE 10 639 (.store 1 (.t 68) (.t 66))])
     (.seq (.reg [oT 69 (.load true 9 (.t 4)), oN (.store 9 (.t 2) (.t 69))])
     (.ret)))))
     (.seq (.reg [oT 29 (.faddr 0 (.t 4)), oN (.store 1 (.t 29) (.c (.int .i64 2)))])
     (.seq (.seq (.reg [oT 30 (.mov (.t 0)), oT 31 (.bslice 1 [(.str [])] 1 [(0, 1, (.c (.str [91])))]), oT 32 (.call 86 [(.t 30), (.t 31)])])
     (.cond (.t 32)
      (.reg [oT 33 (.mov (.t 0)), oT 34 (.call 88 [(.t 33)]), oT 35 (.faddr 0 (.t 4)), oN (.store 1 (.t 35) (.c (.int .i64 3))), oT 36 (.faddr 4 (.t 4)), oN (.store 1 (.t 36) (.t 34))])
      (.skip)))
     (.reg [oT 37 (.mov (.t 0)), oT 38 (.call 89 [(.t 37)]), oT 39 (.faddr 3 (.t 4)), oN (.store 1 (.t 39) (.t 38))])))))))))))))
 (.seq (.reg [oT 70 (.mov (.t 0)), oT 71 (.call 92 [(.t 70), (.c (.str [59]))])])
 (.seq (.reg [oT 72 (.load true 9 (.t 4)), oN (.store 9 (.t 2) (.t 72))])
 (.ret))))))))) [.cell 2 true 9]
/-- stockade/show.Clean -/
def m50 : MFun := .code 25 (
 .seq (.reg [oT 2 (.mov (.c (.str []))), oT 3 (.new .own [.nilIface, (.int .i64 0)])])
 (.seq (.reg [oT 9 (.mov (.t 0)), oT 10 (.call 18 [(.t 9)]), oT 8 (.mov (.t 10)), oT 11 (.ext (.t 8) 0), oT 12 (.ext (.t 8) 1), oT 4 (.new .own [(.int .i64 0), (.int .i64 0), (.str []), (.int .i64 0), (.int .i64 0), (.int .i64 0), (.int .i64 0), (.int .u64 0), .nilSlice]), oT 5 (.new .own [.nilIface, (.int .i64 0)]), oN (.store 9 (.t 4) (.t 11)), oN (.store 2 (.t 5) (.t 12))])
 (.seq (.seq (.reg [oT 13 (.faddr 0 (.t 5)), oT 14 (.load false 1 (.t 13)), oT 15 (.eqv true (.one .iface) (.t 14) (.c .nilIface))])
 (.cond (.t 15)
  (.seq (.regD [oD 0 16 0 (.load true 2 (.t 5)), oD 1 2 0 (.mov (.c (.str []))), oE 2 3 (.store 2 (.t 3) (.t 16))])
  (.ret))
  (.skip)))
 (.seq (.reg [oT 18 (.load true 9 (.t 4)), oT 19 (.call 29 [(.t 18)]), oT 17 (.mov (.t 19)), oT 20 (.ext (.t 17) 0), oT 21 (.ext (.t 17) 1), oT 6 (.mov (.t 20)), oT 7 (.mov (.t 21))])
 (.seq (.reg [oT 22 (.mov (.t 6)), oT 23 (.mov (.t 7)), oT 24 (.build [.nilIface, (.int .i64 0)] [(0, 1, (.t 23))]), oT 2 (.mov (.t 22)), oN (.store 2 (.t 3) (.t 24))])
 (.ret)))))) [.t 2, .cell 3 true 2]
/-- stockade/show.inForm -/
def m51 : MFun := .code 7 (
 .seq (.reg [oT 2 (.new .own [.nilIface])])
 (.seq (.reg [oT 3 (.mkfn (.func 93) [] [(.t 2)]), oN (.defer (.t 3))])
 (.seq (.reg [oT 4 (.mov (.t 0)), oT 5 (.build [] []), oT 6 (.callv (.t 4) [(.t 5)])])
 (.seq (.reg [oN (.store 1 (.t 2) (.c .nilIface))])
 (.ret))))) [.cell 2 false 1]
/-- stockade/show.Check$1 -/
def m52 : MFun := .code 6 (
 .seq (.reg [oT 2 (.box (.t 0))])
 (.reg [oT 3 (.load true 0 (.t 2)), oT 4 (.load true 9 (.t 1)), oT 5 (.call 53 [(.t 3), (.t 4)])])) []
/-- (stockade/show.form).program -/
def m53 : MFun := .code 26 (
 .seq (.reg [oT 2 (.box (.t 0)), oT 3 (.box (.t 1))])
 (.seq (.reg [oT 6 (.load true 0 (.t 2)), oT 7 (.faddr 0 (.t 3)), oT 8 (.load false 1 (.t 7)), oT 9 (.bin .eql (.t 8) (.c (.int .i64 1))), oT 10 (.call 94 [(.t 6), (.t 9)])])
 (.seq (.reg [oT 11 (.load true 0 (.t 2)), oT 12 (.load true 9 (.t 3)), oT 13 (.build [(.int .i64 0), (.int .i64 0), (.str []), (.int .i64 0), (.int .i64 0), (.int .i64 0), (.int .i64 0), (.int .u64 0), .nilSlice] []), oT 14 (.call 95 [(.t 11), (.t 12), (.t 13)])])
 (.seq (.reg [oT 15 (.faddr 8 (.t 3)), oT 16 (.load false 1 (.t 15)), oT 17 (.lenL (.t 16)), oT 18 (.mov (.c (.int .i64 0)))])
 (.block 0 (.loop (.seq (.reg [oT 19 (.bin .lss (.t 18) (.t 17))])
 (.seq (.cond (.t 19)
  (.skip)
  (.exit 0))
 (.seq (.block 1 (.seq (.reg [oT 20 (.iaddr 9 (.t 16) (.t 18)), oT 21 (.load true 9 (.t 20)), oT 5 (.new .own [(.int .i64 0), (.int .i64 0), (.str []), (.int .i64 0), (.int .i64 0), (.int .i64 0), (.int .i64 0), (.int .u64 0), .nilSlice]), oN (.store 9 (.t 5) (.t 21))])
 (.reg [oT 22 (.load true 0 (.t 2)), oT 23 (.load true 9 (.t 5)), oT 24 (.call 96 [(.t 22), (.t 23)])])))
 (.reg [oT 25 (.bin .add (.t 18) (.c (.int .i64 1))), oT 18 (.mov (.t 25))])))))))))) []
/-- stockade/stockaderef05.Key -/
def m54 : MFun := .code 28 (
 .seq (.reg [oT 2 (.mov (.c (.bool false)))])
 (.seq (.seq (.reg [oT 3 (.mov (.t 0))])
 (.block 0 (.seq (.seq (.reg [oT 5 (.bin .eql (.t 3) (.c (.str [97, 100, 100]))), oT 4 (.mov (.t 5))])
 (.cond (.t 4)
  (.skip)
  (.seq (.reg [oT 6 (.bin .eql (.t 3) (.c (.str [97, 116, 111, 109, 105, 99]))), oT 4 (.mov (.t 6))])
  (.cond (.t 4)
   (.skip)
   (.seq (.reg [oT 7 (.bin .eql (.t 3) (.c (.str [98, 111, 111, 108]))), oT 4 (.mov (.t 7))])
   (.cond (.t 4)
    (.skip)
    (.seq (.reg [oT 8 (.bin .eql (.t 3) (.c (.str [99, 104, 97, 110]))), oT 4 (.mov (.t 8))])
    (.cond (.t 4)
     (.skip)
     (.seq (.reg [oT 9 (.bin .eql (.t 3) (.c (.str [101, 108, 115, 101]))), oT 4 (.mov (.t 9))])
     (.cond (.t 4)
      (.skip)
      (.seq (.reg [oT 10 (.bin .eql (.t 3) (.c (.str [102, 97, 105, 108]))), oT 4 (.mov (.t 10))])
      (.cond (.t 4)
       (.skip)
       (.seq (.reg [oT 11 (.bin .eql (.t 3) (.c (.str [102, 97, 108, 115, 101]))), oT 4 (.mov (.t 11))])
       (.cond (.t 4)
        (.skip)
        (.seq (.reg [oT 12 (.bin .eql (.t 3) (.c (.str [102, 108, 111, 97, 116]))), oT 4 (.mov (.t 12))])
        (.cond (.t 4)
         (.skip)
         (.seq (.reg [oT 13 (.bin .eql (.t 3) (.c (.str [102, 117, 110, 99]))), oT 4 (.mov (.t 13))])
         (.cond (.t 4)
          (.skip)
          (.seq (.reg [oT 14 (.bin .eql (.t 3) (.c (.str [103, 101, 116]))), oT 4 (.mov (.t 14))])
          (.cond (.t 4)
           (.skip)
           (.seq (.reg [oT 15 (.bin .eql (.t 3) (.c (.str [103, 111]))), oT 4 (.mov (.t 15))])
           (.cond (.t 4)
            (.skip)
            (.seq (.reg [oT 16 (.bin .eql (.t 3) (.c (.str [105, 102]))), oT 4 (.mov (.t 16))])
            (.cond (.t 4)
             (.skip)
             (.seq (.reg [oT 17 (.bin .eql (.t 3) (.c (.str [105, 110, 116]))), oT 4 (.mov (.t 17))])
             (.cond (.t 4)
              (.skip)
              (.seq (.reg [oT 18 (.bin .eql (.t 3) (.c (.str [108, 111, 99, 107]))), oT 4 (.mov (.t 18))])
              (.cond (.t 4)
               (.skip)
               (.seq (.reg [oT 19 (.bin .eql (.t 3) (.c (.str [109, 117, 116, 101, 120]))), oT 4 (.mov (.t 19))])
               (.cond (.t 4)
                (.skip)
                (.seq (.reg [oT 20 (.bin .eql (.t 3) (.c (.str [112, 117, 116]))), oT 4 (.mov (.t 20))])
                (.cond (.t 4)
                 (.skip)
                 (.seq (.reg [oT 21 (.bin .eql (.t 3) (.c (.str [114, 101, 99, 118]))), oT 4 (.mov (.t 21))])
                 (.cond (.t 4)
                  (.skip)
                  (.seq (.reg [oT 22 (.bin .eql (.t 3) (.c (.str [114, 101, 116, 117, 114, 110]))), oT 4 (.mov (.t 22))])
                  (.cond (.t 4)
                   (.skip)
                   (.seq (.reg [oT 23 (.bin .eql (.t 3) (.c (.str [115, 101, 110, 100]))), oT 4 (.mov (.t 23))])
                   (.cond (.t 4)
                    (.skip)
                    (.seq (.reg [oT 24 (.bin .eql (.t 3) (.c (.str [116, 114, 117, 101]))), oT 4 (.mov (.t 24))])
                    (.cond (.t 4)
                     (.skip)
                     (.seq (.reg [oT 25 (.bin .eql (.t 3) (.c (.str [117, 110, 108, 111, 99, 107]))), oT 4 (.mov (.t 25))])
                     (.cond (.t 4)
                      (.skip)
                      (.seq (.reg [oT 26 (.bin .eql (.t 3) (.c (.str [118, 97, 114]))), oT 4 (.mov (.t 26))])
                      (.cond (.t 4)
                       (.skip)
                       (.reg [oT 27 (.bin .eql (.t 3) (.c (.str [119, 104, 105, 108, 101]))), oT 4 (.mov (.t 27))])))))))))))))))))))))))))))))))))))))))))))))
 (.cond (.t 4)
  (.seq (.reg [oT 2 (.mov (.c (.bool true)))])
  (.ret))
  (.skip)))))
 (.seq (.reg [oT 2 (.mov (.c (.bool false)))])
 (.ret)))) [.t 2]
/-- stockade/show.Expr$1 -/
def m56 : MFun := .code 6 (
 .seq (.reg [oT 2 (.box (.t 0))])
 (.reg [oT 3 (.load true 0 (.t 2)), oT 4 (.load true 9 (.t 1)), oT 5 (.call 57 [(.t 3), (.t 4)])])) []
/-- (stockade/show.form).expr -/
def m57 : MFun := .code 114 (
 .seq (.reg [oT 2 (.box (.t 0)), oT 3 (.box (.t 1))])
 (.seq (.reg [oT 4 (.mov (.c (.int .i64 0)))])
 (.seq (.reg [oT 8 (.build [(.int .i64 0), (.int .i64 0), (.str []), (.int .i64 0), (.int .i64 0), (.int .i64 0), (.int .i64 0), (.int .u64 0), .nilSlice] []), oT 5 (.new .own [(.int .i64 0), (.int .i64 0), (.str []), (.int .i64 0), (.int .i64 0), (.int .i64 0), (.int .i64 0), (.int .u64 0), .nilSlice]), oN (.store 9 (.t 5) (.t 8))])
 (.seq (.seq (.reg [oT 9 (.faddr 0 (.t 3)), oT 10 (.load false 1 (.t 9))])
 (.block 0 (.seq (.reg [oT 14 (.bin .eql (.t 10) (.c (.int .i64 25))), oT 13 (.mov (.t 14))])
 (.cond (.t 13)
  (.seq (.reg [oT 15 (.load true 0 (.t 2)), oT 16 (.faddr 4 (.t 3)), oT 17 (.load false 1 (.t 16)), oT 18 (.bin .geq (.t 17) (.c (.int .i64 0))), oT 19 (.call 94 [(.t 15), (.t 18)])])
  (.reg [oT 20 (.faddr 4 (.t 3)), oT 21 (.load false 1 (.t 20)), oT 22 (.faddr 4 (.t 5)), oN (.store 1 (.t 22) (.t 21))]))
  (.seq (.reg [oT 24 (.bin .eql (.t 10) (.c (.int .i64 26))), oT 23 (.mov (.t 24))])
  (.cond (.t 23)
   (.reg [oT 25 (.faddr 7 (.t 3)), oT 26 (.load false 1 (.t 25)), oT 27 (.faddr 7 (.t 5)), oN (.store 1 (.t 27) (.t 26))])
   (.seq (.reg [oT 29 (.bin .eql (.t 10) (.c (.int .i64 27))), oT 28 (.mov (.t 29))])
   (.cond (.t 28)
    (.seq (.reg [oT 30 (.load true 0 (.t 2)), oT 31 (.faddr 4 (.t 3)), oT 32 (.load false 1 (.t 31)), oT 33 (.bin .eql (.t 32) (.c (.int .i64 0))), oT 34 (.mov (.t 33)), oH 35 34 (.faddr 4 (.t 3)), oH 36 34 (.load false 1 (.t 35)), oH 37 34 (.bin .eql (.t 36) (.c (.int .i64 1))), oT 38 (.pick (.t 34) (.c (.bool true)) (.t 37)), oT 39 (.call 94 [(.t 30), (.t 38)])])
    (.reg [oT 40 (.faddr 4 (.t 3)), oT 41 (.load false 1 (.t 40)), oT 42 (.faddr 4 (.t 5)), oN (.store 1 (.t 42) (.t 41))]))
    (.seq (.seq (.reg [oT 44 (.bin .eql (.t 10) (.c (.int .i64 28))), oT 43 (.mov (.t 44))])
    (.cond (.t 43)
     (.skip)
     (.reg [oT 45 (.bin .eql (.t 10) (.c (.int .i64 29))), oT 43 (.mov (.t 45))])))
    (.cond (.t 43)
     (.seq (.reg [oT 46 (.load true 0 (.t 2)), oT 47 (.faddr 2 (.t 3)), oT 48 (.load false 1 (.t 47)), oT 49 (.call 97 [(.t 46), (.t 48)])])
     (.seq (.reg [oT 50 (.faddr 2 (.t 3)), oT 51 (.load false 1 (.t 50)), oT 52 (.faddr 2 (.t 5)), oN (.store 1 (.t 52) (.t 51))])
     (.reg [oT 53 (.faddr 0 (.t 3)), oT 54 (.load false 1 (.t 53)), oT 55 (.bin .sub (.t 54) (.c (.int .i64 28))), oT 4 (.mov (.t 55))])))
     (.seq (.reg [oT 57 (.bin .eql (.t 10) (.c (.int .i64 30))), oT 56 (.mov (.t 57))])
     (.cond (.t 56)
      (.seq (.reg [oT 58 (.load true 0 (.t 2)), oT 59 (.faddr 2 (.t 3)), oT 60 (.load false 1 (.t 59)), oT 61 (.bin .eql (.t 60) (.c (.str [45]))), oT 62 (.mov (.t 61)), oH 63 62 (.faddr 2 (.t 3)), oH 64 62 (.load false 1 (.t 63)), oH 65 62 (.bin .eql (.t 64) (.c (.str [33]))), oT 66 (.pick (.t 62) (.c (.bool true)) (.t 65)), oT 67 (.mov (.t 66)), oH 68 67 (.faddr 2 (.t 3)), oH 69 67 (.load false 1 (.t 68)), oH 70 67 (.bin .eql (.t 69) (.c (.str [105, 110, 116]))), oT 71 (.pick (.t 67) (.c (.bool true)) (.t 70)), oT 72 (.mov (.t 71)), oH 73 72 (.faddr 2 (.t 3)), oH 74 72 (.load false 1 (.t 73)), oH 75 72 (.bin .eql (.t 74) (.c (.str [102, 108, 111, 97, 116]))), oT 76 (.pick (.t 72) (.c (.bool true)) (.t 75)), oT 77 (.call 94 [(.t 58), (.t 76)])])
      (.reg [oT 78 (.faddr 2 (.t 3)), oT 79 (.load false 1 (.t 78)), oT 80 (.faddr 2 (.t 5)), oN (.store 1 (.t 80) (.t 79)), oT 4 (.mov (.c (.int .i64 1)))]))
      (.seq (.reg [oT 82 (.bin .eql (.t 10) (.c (.int .i64 31))), oT 81 (.mov (.t 82))])
      (.cond (.t 81)
       (.seq (.regD [oD 0 83 0 (.load true 0 (.t 2)), oD 1 84 0 (.faddr 2 (.t 3)), oD 2 85 2 (.load false 1 (.t 84)), oD 3 86 6 (.call 98 [(.t 85)]), oD 4 87 14 (.bin .gtr (.t 86) (.c (.int .i64 0))), oD 5 88 31 (.call 94 [(.t 83), (.t 87)])])
       (.reg [oT 89 (.faddr 2 (.t 3)), oT 90 (.load false 1 (.t 89)), oT 91 (.faddr 2 (.t 5)), oN (.store 1 (.t 91) (.t 90)), oT 4 (.mov (.c (.int .i64 2)))]))
       (.reg [oT 11 (.load true 0 (.t 2)), oT 12 (.call 94 [(.t 11), (.c (.bool false))])])))))))))))))))
 (.seq (.reg [oT 92 (.load true 0 (.t 2)), oT 93 (.load true 9 (.t 3)), oT 94 (.load true 9 (.t 5)), oT 95 (.call 95 [(.t 92), (.t 93), (.t 94)])])
 (.seq (.reg [oT 96 (.load true 0 (.t 2)), oT 97 (.faddr 8 (.t 3)), oT 98 (.load false 1 (.t 97)), oT 99 (.lenL (.t 98)), oT 100 (.mov (.t 4)), oT 101 (.bin .eql (.t 99) (.t 100)), oT 102 (.call 94 [(.t 96), (.t 101)])])
 (.seq (.reg [oT 103 (.faddr 8 (.t 3)), oT 104 (.load false 1 (.t 103)), oT 105 (.lenL (.t 104)), oT 106 (.mov (.c (.int .i64 0)))])
 (.block 1 (.loop (.seq (.reg [oT 107 (.bin .lss (.t 106) (.t 105))])
 (.seq (.cond (.t 107)
  (.skip)
  (.exit 1))
 (.seq (.block 2 (.seq (.reg [oT 108 (.iaddr 9 (.t 104) (.t 106)), oT 109 (.load true 9 (.t 108)), oT 7 (.new .own [(.int .i64 0), (.int .i64 0), (.str []), (.int .i64 0), (.int .i64 0), (.int .i64 0), (.int .i64 0), (.int .u64 0), .nilSlice]), oN (.store 9 (.t 7) (.t 109))])
 (.reg [oT 110 (.load true 0 (.t 2)), oT 111 (.load true 9 (.t 7)), oT 112 (.call 57 [(.t 110), (.t 111)])])))
 (.reg [oT 113 (.bin .add (.t 106) (.c (.int .i64 1))), oT 106 (.mov (.t 113))]))))))))))))) []
/-- stockade/show.expr -/
def m58 : MFun := .code 95 (
 .seq (.reg [oT 1 (.box (.t 0)), oT 2 (.mov (.c (.str [])))])
 (.seq (.seq (.reg [oT 6 (.faddr 0 (.t 1)), oT 7 (.load false 1 (.t 6))])
 (.block 0 (.seq (.reg [oT 9 (.bin .eql (.t 7) (.c (.int .i64 25))), oT 8 (.mov (.t 9))])
 (.cond (.t 8)
  (.seq (.reg [oT 10 (.faddr 4 (.t 1)), oT 11 (.load false 1 (.t 10)), oT 12 (.call 99 [(.t 11)]), oT 2 (.mov (.t 12))])
  (.ret))
  (.seq (.reg [oT 14 (.bin .eql (.t 7) (.c (.int .i64 26))), oT 13 (.mov (.t 14))])
  (.cond (.t 13)
   (.seq (.reg [oT 15 (.faddr 7 (.t 1)), oT 16 (.load false 1 (.t 15)), oT 17 (.call 100 [(.t 16), (.c (.int .i64 16))]), oT 3 (.mov (.t 17))])
   (.seq (.reg [oT 18 (.mov (.t 3)), oT 19 (.lenS (.t 18)), oT 20 (.bin .sub (.c (.int .i64 16)) (.t 19)), oT 21 (.call 101 [(.c (.str [48])), (.t 20)]), oT 22 (.bin .add (.c (.str [35])) (.t 21)), oT 23 (.mov (.t 3)), oT 24 (.bin .add (.t 22) (.t 23)), oT 2 (.mov (.t 24))])
   (.ret)))
   (.seq (.reg [oT 26 (.bin .eql (.t 7) (.c (.int .i64 27))), oT 25 (.mov (.t 26))])
   (.cond (.t 25)
    (.seq (.reg [oT 27 (.build [(.str []), (.str [])] [(0, 1, (.c (.str [102, 97, 108, 115, 101]))), (1, 1, (.c (.str [116, 114, 117, 101])))]), oT 28 (.faddr 4 (.t 1)), oT 29 (.load false 1 (.t 28)), oT 30 (.idxa false 2 1 (.t 27) (.t 29)), oT 2 (.mov (.t 30))])
    (.ret))
    (.seq (.reg [oT 32 (.bin .eql (.t 7) (.c (.int .i64 28))), oT 31 (.mov (.t 32))])
    (.cond (.t 31)
     (.seq (.reg [oT 33 (.faddr 2 (.t 1)), oT 34 (.load false 1 (.t 33)), oT 2 (.mov (.t 34))])
     (.ret))
     (.seq (.reg [oT 36 (.bin .eql (.t 7) (.c (.int .i64 29))), oT 35 (.mov (.t 36))])
     (.cond (.t 35)
      (.seq (.regD [oD 0 37 0 (.faddr 2 (.t 1)), oD 1 38 1 (.load false 1 (.t 37)), oD 2 39 3 (.bin .add (.t 38) (.c (.str [91]))), oD 3 40 0 (.faddr 8 (.t 1)), oD 4 41 8 (.load false 1 (.t 40)), oD 5 42 24 (.iaddr 9 (.t 41) (.c (.int .i64 0))), oD 6 43 56 (.load true 9 (.t 42)), oD 7 44 120 (.call 58 [(.t 43)]), oD 8 45 255 (.bin .add (.t 39) (.t 44)), oD 9 46 511 (.bin .add (.t 45) (.c (.str [93]))), oD 10 2 1023 (.mov (.t 46))])
      (.ret))
      (.seq (.reg [oT 48 (.bin .eql (.t 7) (.c (.int .i64 30))), oT 47 (.mov (.t 48))])
      (.cond (.t 47)
       (.seq (.seq (.reg [oT 49 (.faddr 2 (.t 1)), oT 50 (.load false 1 (.t 49)), oT 51 (.lenS (.t 50)), oT 52 (.bin .gtr (.t 51) (.c (.int .i64 1)))])
       (.cond (.t 52)
        (.seq (.regD [oD 0 53 0 (.faddr 2 (.t 1)), oD 1 54 1 (.load false 1 (.t 53)), oD 2 55 3 (.bin .add (.t 54) (.c (.str [40]))), oD 3 56 0 (.faddr 8 (.t 1)), oD 4 57 8 (.load false 1 (.t 56)), oD 5 58 24 (.iaddr 9 (.t 57) (.c (.int .i64 0))), oD 6 59 56 (.load true 9 (.t 58)), oD 7 60 120 (.call 58 [(.t 59)]), oD 8 61 255 (.bin .add (.t 55) (.t 60)), oD 9 62 511 (.bin .add (.t 61) (.c (.str [41]))), oD 10 2 1023 (.mov (.t 62))])
        (.ret))
        (.skip)))
       (.seq (.regD [oD 0 63 0 (.faddr 2 (.t 1)), oD 1 64 1 (.load false 1 (.t 63)), oD 2 65 0 (.faddr 8 (.t 1)), oD 3 66 4 (.load false 1 (.t 65)), oD 4 67 12 (.iaddr 9 (.t 66) (.c (.int .i64 0))), oD 5 68 28 (.load true 9 (.t 67)), oD 6 69 60 (.call 102 [(.t 68), (.c (.int .i64 6))]), oD 7 70 127 (.bin .add (.t 64) (.t 69)), oD 8 2 255 (.mov (.t 70))])
       (.ret)))
       (.skip)))))))))))))))
 (.seq (.reg [oT 71 (.load true 9 (.t 1)), oT 72 (.call 103 [(.t 71)]), oT 4 (.mov (.t 72))])
 (.seq (.reg [oT 73 (.mov (.t 4)), oT 5 (.mov (.t 73))])
 (.seq (.seq (.reg [oT 74 (.mov (.t 4)), oT 75 (.bin .eql (.t 74) (.c (.int .i64 3)))])
 (.cond (.t 75)
  (.reg [oT 5 (.mov (.c (.int .i64 4)))])
  (.skip)))
 (.seq (.regD [oD 0 76 0 (.faddr 8 (.t 1)), oD 1 77 1 (.load false 1 (.t 76)), oD 2 78 3 (.iaddr 9 (.t 77) (.c (.int .i64 0))), oD 3 79 7 (.load true 9 (.t 78)), oD 4 80 0 (.mov (.t 5)), oD 5 81 31 (.call 102 [(.t 79), (.t 80)]), oD 6 82 63 (.bin .add (.t 81) (.c (.str [32]))), oD 7 83 0 (.faddr 2 (.t 1)), oD 8 84 128 (.load false 1 (.t 83)), oD 9 85 511 (.bin .add (.t 82) (.t 84)), oD 10 86 1023 (.bin .add (.t 85) (.c (.str [32]))), oD 11 87 0 (.faddr 8 (.t 1)), oD 12 88 2048 (.load false 1 (.t 87)), oD 13 89 6144 (.iaddr 9 (.t 88) (.c (.int .i64 1))), oD 14 90 14336 (.load true 9 (.t 89)), oD 15 91 0 (.mov (.t 4)), oD 16 92 32768 (.bin .add (.t 91) (.c (.int .i64 1))), oD 17 93 129087 (.call 102 [(.t 90), (.t 92)]), oD 18 94 262143 (.bin .add (.t 86) (.t 93)), oD 19 2 524287 (.mov (.t 94))])
 (.ret))))))) [.t 2]
/-- (*stockade/tree.parser).expr -/
def m59 : MFun := .code 8 (
 .seq (.reg [oT 2 (.new .own [(.int .i64 0), (.int .i64 0), (.str []), (.int .i64 0), (.int .i64 0), (.int .i64 0), (.int .i64 0), (.int .u64 0), .nilSlice])])
 (.seq (.reg [oT 3 (.mov (.t 0)), oT 4 (.mov (.t 0)), oT 5 (.mkfn (.func 105) [(.t 4)] []), oT 6 (.bslice 1 [(.str [])] 1 [(0, 1, (.c (.str [124, 124])))]), oT 7 (.call 104 [(.t 3), (.t 5), (.c (.bool true)), (.t 6)]), oN (.store 9 (.t 2) (.t 7))])
 (.ret))) [.cell 2 true 9]
/-- (*stockade/show.page).decl -/
def m64 : MFun := .code 100 (
 .seq (.reg [oT 3 (.box (.t 1))])
 (.seq (.reg [oT 8 (.faddr 4 (.t 3)), oT 9 (.load false 1 (.t 8)), oT 10 (.call 99 [(.t 9)]), oT 11 (.bin .add (.c (.str [91])) (.t 10)), oT 12 (.bin .add (.t 11) (.c (.str [93, 32]))), oT 4 (.mov (.t 12))])
 (.seq (.reg [oT 13 (.faddr 0 (.t 3)), oT 14 (.load false 1 (.t 13))])
 (.block 0 (.seq (.reg [oT 55 (.bin .eql (.t 14) (.c (.int .i64 2))), oT 54 (.mov (.t 55))])
 (.cond (.t 54)
  (.regD [oD 0 56 0 (.mov (.t 0)), oD 1 57 0 (.faddr 2 (.t 3)), oD 2 58 2 (.load false 1 (.t 57)), oD 3 59 0 (.faddr 3 (.t 3)), oD 4 60 8 (.load false 1 (.t 59)), oD 5 61 24 (.call 108 [(.t 60)]), oD 6 62 62 (.bslice 1 [(.str []), (.str []), (.str []), (.str []), (.str [])] 5 [(0, 1, (.c (.str [118, 97, 114, 32]))), (1, 1, (.t 58)), (2, 1, (.c (.str [32]))), (3, 1, (.t 61)), (4, 1, (.c (.str [59])))]), oD 7 63 127 (.call 107 [(.t 56), (.t 62)])])
  (.seq (.reg [oT 65 (.bin .eql (.t 14) (.c (.int .i64 3))), oT 64 (.mov (.t 65))])
  (.cond (.t 64)
   (.regD [oD 0 66 0 (.mov (.t 0)), oD 1 67 0 (.faddr 2 (.t 3)), oD 2 68 2 (.load false 1 (.t 67)), oD 3 69 0 (.mov (.t 4)), oD 4 70 0 (.faddr 3 (.t 3)), oD 5 71 16 (.load false 1 (.t 70)), oD 6 72 48 (.call 108 [(.t 71)]), oD 7 73 126 (.bslice 1 [(.str []), (.str []), (.str []), (.str []), (.str [])] 5 [(0, 1, (.c (.str [118, 97, 114, 32]))), (1, 1, (.t 68)), (2, 1, (.t 69)), (3, 1, (.t 72)), (4, 1, (.c (.str [59])))]), oD 8 74 255 (.call 107 [(.t 66), (.t 73)])])
   (.seq (.reg [oT 76 (.bin .eql (.t 14) (.c (.int .i64 5))), oT 75 (.mov (.t 76))])
   (.cond (.t 75)
    (.regD [oD 0 77 0 (.mov (.t 0)), oD 1 78 0 (.faddr 2 (.t 3)), oD 2 79 2 (.load false 1 (.t 78)), oD 3 80 0 (.mov (.t 4)), oD 4 81 0 (.faddr 3 (.t 3)), oD 5 82 16 (.load false 1 (.t 81)), oD 6 83 48 (.call 108 [(.t 82)]), oD 7 84 126 (.bslice 1 [(.str []), (.str []), (.str []), (.str []), (.str [])] 5 [(0, 1, (.c (.str [99, 104, 97, 110, 32]))), (1, 1, (.t 79)), (2, 1, (.t 80)), (3, 1, (.t 83)), (4, 1, (.c (.str [59])))]), oD 8 85 255 (.call 107 [(.t 77), (.t 84)])])
    (.seq (.reg [oT 87 (.bin .eql (.t 14) (.c (.int .i64 4))), oT 86 (.mov (.t 87))])
    (.cond (.t 86)
     (.reg [oT 88 (.mov (.t 0)), oT 89 (.faddr 2 (.t 3)), oT 90 (.load false 1 (.t 89)), oT 91 (.bslice 1 [(.str []), (.str []), (.str [])] 3 [(0, 1, (.c (.str [109, 117, 116, 101, 120, 32]))), (1, 1, (.t 90)), (2, 1, (.c (.str [59])))]), oT 92 (.call 107 [(.t 88), (.t 91)])])
     (.seq (.reg [oT 94 (.bin .eql (.t 14) (.c (.int .i64 6))), oT 93 (.mov (.t 94))])
     (.cond (.t 93)
      (.reg [oT 95 (.mov (.t 0)), oT 96 (.faddr 2 (.t 3)), oT 97 (.load false 1 (.t 96)), oT 98 (.bslice 1 [(.str []), (.str []), (.str [])] 3 [(0, 1, (.c (.str [97, 116, 111, 109, 105, 99, 32]))), (1, 1, (.t 97)), (2, 1, (.c (.str [59])))]), oT 99 (.call 107 [(.t 95), (.t 98)])])
      (.seq (.reg [oT 5 (.mov (.c .nilSlice))])
      (.seq (.seq (.reg [oT 15 (.faddr 8 (.t 3)), oT 16 (.load false 1 (.t 15)), oT 17 (.faddr 4 (.t 3)), oT 18 (.load false 1 (.t 17)), oT 19 (.slc 9 (.t 16) none (some (.t 18)) none), oT 20 (.lenL (.t 19)), oT 21 (.mov (.c (.int .i64 0)))])
      (.block 1 (.loop (.seq (.reg [oT 22 (.bin .lss (.t 21) (.t 20))])
      (.seq (.cond (.t 22)
       (.skip)
       (.exit 1))
      (.seq (.block 2 (.seq (.reg [oT 23 (.iaddr 9 (.t 19) (.t 21)), oT 24 (.load true 9 (.t 23)), oT 7 (.new .own [(.int .i64 0), (.int .i64 0), (.str []), (.int .i64 0), (.int .i64 0), (.int .i64 0), (.int .i64 0), (.int .u64 0), .nilSlice]), oN (.store 9 (.t 7) (.t 24))])
      (.regD [oD 0 25 0 (.mov (.t 5)), oD 1 26 0 (.faddr 2 (.t 7)), oD 2 27 2 (.load false 1 (.t 26)), oD 3 28 6 (.bin .add (.t 27) (.c (.str [32]))), oD 4 29 0 (.faddr 3 (.t 7)), oD 5 30 16 (.load false 1 (.t 29)), oD 6 31 48 (.call 108 [(.t 30)]), oD 7 32 126 (.bin .add (.t 28) (.t 31)), oD 8 33 254 (.bslice 1 [(.str [])] 1 [(0, 1, (.t 32))]), oD 9 34 511 (.append .own 1 16 (.t 25) (.t 33)), oD 10 5 1023 (.mov (.t 34))])))
      (.reg [oT 35 (.bin .add (.t 21) (.c (.int .i64 1))), oT 21 (.mov (.t 35))])))))))
      (.seq (.regD [oD 0 36 0 (.mov (.t 0)), oD 1 37 0 (.faddr 2 (.t 3)), oD 2 38 2 (.load false 1 (.t 37)), oD 3 39 0 (.mov (.t 5)), oD 4 40 8 (.call 109 [(.t 39), (.c (.str [44, 32]))]), oD 5 41 30 (.bslice 1 [(.str []), (.str []), (.str []), (.str []), (.str [])] 5 [(0, 1, (.c (.str [102, 117, 110, 99, 32]))), (1, 1, (.t 38)), (2, 1, (.c (.str [40]))), (3, 1, (.t 40)), (4, 1, (.c (.str [41, 32, 123])))]), oD 6 42 63 (.call 107 [(.t 36), (.t 41)])])
      (.seq (.reg [oT 43 (.mov (.t 0)), oT 44 (.faddr 8 (.t 3)), oT 45 (.load false 1 (.t 44)), oT 46 (.faddr 4 (.t 3)), oT 47 (.load false 1 (.t 46)), oT 48 (.iaddr 9 (.t 45) (.t 47)), oT 49 (.load true 9 (.t 48)), oT 50 (.call 110 [(.t 43), (.t 49)])])
      (.reg [oT 51 (.mov (.t 0)), oT 52 (.bslice 1 [(.str [])] 1 [(0, 1, (.c (.str [125])))]), oT 53 (.call 107 [(.t 51), (.t 52)])]))))))))))))))))))) []
/-- stockade/token.Tokens$1 -/
def m70 : MFun := .code 18 (
 .seq (.reg [oT 5 (.recover), oT 2 (.mov (.t 5))])
 (.seq (.reg [oT 6 (.mov (.t 2)), oT 7 (.eqv true (.one .iface) (.t 6) (.c .nilIface))])
 (.cond (.t 7)
  (.seq (.reg [oT 9 (.mov (.t 2)), oT 10 (.tassert 117 (.agg [.nilIface, (.int .i64 0)]) (.t 9)), oT 8 (.mov (.t 10)), oT 11 (.ext (.t 8) 0), oT 12 (.ext (.t 8) 1), oT 3 (.new .own [.nilIface, (.int .i64 0)]), oN (.store 2 (.t 3) (.t 11)), oT 4 (.mov (.t 12))])
  (.seq (.seq (.reg [oT 13 (.mov (.t 4)), oT 14 (.un .not (.t 13))])
  (.cond (.t 14)
   (.reg [oT 15 (.mov (.t 2)), oN (.panic (.t 15))])
   (.skip)))
  (.regD [oD 0 16 0 (.faddr 0 (.t 3)), oD 1 17 1 (.load true 2 (.t 16)), oE 2 0 (.store 1 (.t 0) (.c .nilSlice)), oE 3 7 (.store 2 (.t 1) (.t 17))])))
  (.skip)))) []
/-- (*stockade/token.reader).skip -/
def m71 : MFun := .code 27 (
 .block 0 (.loop (.block 1 (.seq (.reg [oT 3 (.mov (.t 0)), oT 4 (.nilck (.t 3)), oT 5 (.faddr 1 (.t 4)), oT 6 (.load false 1 (.t 5)), oT 2 (.mov (.t 6))])
 (.seq (.reg [oT 7 (.mov (.t 0)), oT 8 (.call 112 [(.t 7), (.c (.func (.func 113) [] []))])])
 (.seq (.seq (.regD [oD 0 9 0 (.mov (.t 0)), oD 1 10 1 (.nilck (.t 9)), oD 2 11 3 (.faddr 0 (.t 10)), oD 3 12 7 (.load false 1 (.t 11)), oD 4 13 0 (.mov (.t 0)), oD 5 14 16 (.nilck (.t 13)), oD 6 15 48 (.faddr 1 (.t 14)), oD 7 16 112 (.load false 1 (.t 15)), oD 8 17 255 (.sls (.t 12) (some (.t 16)) none), oD 9 18 511 (.call 114 [(.t 17), (.c (.str [47, 47]))])])
 (.cond (.t 18)
  (.reg [oT 19 (.mov (.t 0)), oT 20 (.call 112 [(.t 19), (.c (.func (.func 115) [] []))])])
  (.skip)))
 (.seq (.reg [oT 21 (.mov (.t 0)), oT 22 (.nilck (.t 21)), oT 23 (.faddr 1 (.t 22)), oT 24 (.load false 1 (.t 23)), oT 25 (.mov (.t 2)), oT 26 (.bin .eql (.t 24) (.t 25))])
 (.cond (.t 26)
  (.ret)
  (.skip))))))))) []
/-- (*stockade/token.reader).stop -/
def m72 : MFun := .code 11 (
 .reg [oT 6 (.mov (.t 1)), oT 7 (.mov (.t 2)), oT 8 (.build [.nilIface, (.int .i64 0)] [(0, 1, (.t 6)), (1, 1, (.t 7))]), oT 9 (.build [.nilIface, (.int .i64 0)] [(0, 2, (.t 8))]), oT 10 (.mkif 117 (.t 9)), oN (.panic (.t 10))]) []
/-- (*stockade/token.reader).next -/
def m73 : MFun := .code 28 (
 .seq (.reg [oT 2 (.new .own [(.int .i64 0), (.str []), (.int .i64 0), (.int .u64 0), (.int .i64 0)])])
 (.seq (.block 0 (.seq (.reg [oT 4 (.mov (.t 0)), oT 5 (.call 116 [(.t 4), (.c (.func (.func 117) [] []))]), oT 3 (.mov (.t 5))])
 (.cond (.t 3)
  (.seq (.reg [oT 6 (.mov (.t 0)), oT 7 (.call 118 [(.t 6)]), oN (.store 5 (.t 2) (.t 7))])
  (.ret))
  (.seq (.reg [oT 9 (.mov (.t 0)), oT 10 (.call 116 [(.t 9), (.c (.func (.func 119) [] []))]), oT 8 (.mov (.t 10))])
  (.cond (.t 8)
   (.seq (.reg [oT 11 (.mov (.t 0)), oT 12 (.call 120 [(.t 11)]), oN (.store 5 (.t 2) (.t 12))])
   (.ret))
   (.seq (.regD [oD 0 14 0 (.mov (.t 0)), oD 1 15 1 (.nilck (.t 14)), oD 2 16 3 (.faddr 0 (.t 15)), oD 3 17 7 (.load false 1 (.t 16)), oD 4 18 0 (.mov (.t 0)), oD 5 19 16 (.nilck (.t 18)), oD 6 20 48 (.faddr 1 (.t 19)), oD 7 21 112 (.load false 1 (.t 20)), oD 8 22 255 (.idxs (.t 17) (.t 21)), oD 9 23 511 (.bin .eql (.t 22) (.c (.int .u8 35))), oD 10 13 1023 (.mov (.t 23))])
   (.cond (.t 13)
    (.seq (.reg [oT 24 (.mov (.t 0)), oT 25 (.call 121 [(.t 24)]), oN (.store 5 (.t 2) (.t 25))])
    (.ret))
    (.skip))))))))
 (.seq (.reg [oT 26 (.mov (.t 0)), oT 27 (.call 122 [(.t 26)]), oN (.store 5 (.t 2) (.t 27))])
 (.ret)))) [.cell 2 true 5]
/-- stockade/tree.read$1 -/
def m84 : MFun := .code 19 (
 .seq (.reg [oT 5 (.recover), oT 2 (.mov (.t 5))])
 (.seq (.reg [oT 6 (.mov (.t 2)), oT 7 (.eqv true (.one .iface) (.t 6) (.c .nilIface))])
 (.cond (.t 7)
  (.seq (.reg [oT 9 (.mov (.t 2)), oT 10 (.tassert 137 (.agg [.nilIface, (.int .i64 0)]) (.t 9)), oT 8 (.mov (.t 10)), oT 11 (.ext (.t 8) 0), oT 12 (.ext (.t 8) 1), oT 3 (.new .own [.nilIface, (.int .i64 0)]), oN (.store 2 (.t 3) (.t 11)), oT 4 (.mov (.t 12))])
  (.seq (.seq (.reg [oT 13 (.mov (.t 4)), oT 14 (.un .not (.t 13))])
  (.cond (.t 14)
   (.reg [oT 15 (.mov (.t 2)), oN (.panic (.t 15))])
   (.skip)))
  (.regD [oD 0 16 0 (.build [(.int .i64 0), (.int .i64 0), (.str []), (.int .i64 0), (.int .i64 0), (.int .i64 0), (.int .i64 0), (.int .u64 0), .nilSlice] []), oD 1 17 0 (.faddr 0 (.t 3)), oD 2 18 2 (.load true 2 (.t 17)), oE 3 1 (.store 9 (.t 0) (.t 16)), oE 4 15 (.store 2 (.t 1) (.t 18))])))
  (.skip)))) []
/-- (*stockade/tree.parser).wrong -/
def m85 : MFun := .code 9 (
 .regD [oD 0 2 0 (.load false 1 (.c (.ptr 3 0))), oD 1 3 0 (.mov (.t 0)), oD 2 4 2 (.call 48 [(.t 3)]), oD 3 5 6 (.fld false 4 1 (.t 4)), oD 4 6 15 (.build [.nilIface, (.int .i64 0)] [(0, 1, (.t 2)), (1, 1, (.t 5))]), oD 5 7 31 (.build [.nilIface, (.int .i64 0)] [(0, 2, (.t 6))]), oD 6 8 63 (.mkif 137 (.t 7)), oE 7 127 (.panic (.t 8))]) []
/-- (*stockade/tree.parser).is -/
def m86 : MFun := .code 22 (
 .seq (.reg [oT 4 (.mov (.c (.bool false)))])
 (.seq (.reg [oT 6 (.mov (.t 0)), oT 7 (.call 48 [(.t 6)]), oT 5 (.new .own [(.int .i64 0), (.str []), (.int .i64 0), (.int .u64 0), (.int .i64 0)]), oN (.store 5 (.t 5) (.t 7))])
 (.seq (.reg [oT 8 (.faddr 0 (.t 5)), oT 9 (.load false 1 (.t 8)), oT 10 (.bin .eql (.t 9) (.c (.int .i64 2))), oT 11 (.mov (.t 10)), oH 12 11 (.faddr 0 (.t 5)), oH 13 11 (.load false 1 (.t 12)), oH 14 11 (.bin .eql (.t 13) (.c (.int .i64 5))), oT 15 (.pick (.t 11) (.c (.bool true)) (.t 14)), oT 16 (.mov (.t 15)), oG 17 16 (.mov (.t 1)), oG 18 16 (.faddr 1 (.t 5)), oG 19 16 (.load false 1 (.t 18)), oG 20 16 (.call 133 [(.t 17), (.t 19)]), oT 21 (.pick (.t 16) (.t 20) (.c (.bool false))), oT 4 (.mov (.t 21))])
 (.ret)))) [.t 4]
/-- (*stockade/tree.parser).take -/
def m87 : MFun := .code 23 (
 .seq (.reg [oT 4 (.new .own [(.int .i64 0), (.str []), (.int .i64 0), (.int .u64 0), (.int .i64 0)])])
 (.seq (.reg [oT 6 (.mov (.t 0)), oT 7 (.call 48 [(.t 6)]), oT 5 (.new .own [(.int .i64 0), (.str []), (.int .i64 0), (.int .u64 0), (.int .i64 0)]), oN (.store 5 (.t 5) (.t 7))])
 (.seq (.seq (.reg [oT 8 (.faddr 0 (.t 5)), oT 9 (.load false 1 (.t 8)), oT 10 (.mov (.t 1)), oT 11 (.bin .neq (.t 9) (.t 10))])
 (.cond (.t 11)
  (.reg [oT 12 (.mov (.t 0)), oT 13 (.call 85 [(.t 12)])])
  (.skip)))
 (.seq (.reg [oT 14 (.mov (.t 0)), oT 15 (.mov (.t 0)), oT 16 (.nilck (.t 15)), oT 17 (.faddr 0 (.t 16)), oT 18 (.load false 1 (.t 17)), oT 19 (.slc 5 (.t 18) (some (.c (.int .i64 1))) none none), oT 20 (.nilck (.t 14)), oT 21 (.faddr 0 (.t 20)), oN (.store 1 (.t 21) (.t 19))])
 (.seq (.reg [oT 22 (.load true 5 (.t 5)), oN (.store 5 (.t 4) (.t 22))])
 (.ret)))))) [.cell 4 true 5]
/-- (*stockade/tree.parser).sized -/
def m88 : MFun := .code 12 (
 .seq (.reg [oT 2 (.mov (.c (.int .i64 0)))])
 (.seq (.reg [oT 4 (.mov (.t 0)), oT 5 (.call 92 [(.t 4), (.c (.str [91]))])])
 (.seq (.reg [oT 6 (.mov (.t 0)), oT 7 (.call 87 [(.t 6), (.c (.int .i64 3))]), oT 8 (.fld false 2 1 (.t 7)), oT 3 (.mov (.t 8))])
 (.seq (.reg [oT 9 (.mov (.t 0)), oT 10 (.call 92 [(.t 9), (.c (.str [93]))])])
 (.seq (.reg [oT 11 (.mov (.t 3)), oT 2 (.mov (.t 11))])
 (.ret)))))) [.t 2]
/-- (*stockade/tree.parser).typ -/
def m89 : MFun := .code 29 (
 .seq (.reg [oT 2 (.mov (.c (.int .i64 0)))])
 (.seq (.reg [oT 4 (.bslice 1 [(.str []), (.str []), (.str [])] 3 [(0, 1, (.c (.str [105, 110, 116]))), (1, 1, (.c (.str [102, 108, 111, 97, 116]))), (2, 1, (.c (.str [98, 111, 111, 108])))]), oT 5 (.mov (.t 0)), oT 6 (.call 48 [(.t 5)]), oT 7 (.fld false 1 1 (.t 6)), oT 8 (.call 134 [(.t 4), (.t 7)]), oT 3 (.mov (.t 8))])
 (.seq (.seq (.reg [oT 9 (.mov (.t 0)), oT 10 (.call 48 [(.t 9)]), oT 11 (.fld false 0 1 (.t 10)), oT 12 (.bin .neq (.t 11) (.c (.int .i64 2))), oT 13 (.mov (.t 12)), oH 14 13 (.mov (.t 3)), oH 15 13 (.bin .lss (.t 14) (.c (.int .i64 0))), oT 16 (.pick (.t 13) (.c (.bool true)) (.t 15))])
 (.cond (.t 16)
  (.reg [oT 17 (.mov (.t 0)), oT 18 (.call 85 [(.t 17)])])
  (.skip)))
 (.seq (.reg [oT 19 (.mov (.t 0)), oT 20 (.mov (.t 0)), oT 21 (.nilck (.t 20)), oT 22 (.faddr 0 (.t 21)), oT 23 (.load false 1 (.t 22)), oT 24 (.slc 5 (.t 23) (some (.c (.int .i64 1))) none none), oT 25 (.nilck (.t 19)), oT 26 (.faddr 0 (.t 25)), oN (.store 1 (.t 26) (.t 24))])
 (.seq (.reg [oT 27 (.mov (.t 3)), oT 28 (.bin .add (.c (.int .i64 1)) (.t 27)), oT 2 (.mov (.t 28))])
 (.ret)))))) [.t 2]
/-- (*stockade/tree.parser).params -/
def m90 : MFun := .code 43 (
 .seq (.reg [oT 6 (.mov (.t 0)), oT 7 (.call 92 [(.t 6), (.c (.str [40]))])])
 (.seq (.seq (.reg [oT 8 (.mov (.t 0)), oT 9 (.bslice 1 [(.str [])] 1 [(0, 1, (.c (.str [41])))]), oT 10 (.call 86 [(.t 8), (.t 9)]), oT 11 (.un .not (.t 10)), oT 4 (.mov (.t 11))])
 (.block 0 (.loop (.seq (.seq (.reg [oT 12 (.mov (.t 4))])
 (.cond (.t 12)
  (.skip)
  (.exit 0)))
 (.seq (.block 1 (.seq (.reg [oT 15 (.mov (.t 0)), oT 16 (.call 87 [(.t 15), (.c (.int .i64 1))]), oT 5 (.new .own [(.int .i64 0), (.str []), (.int .i64 0), (.int .u64 0), (.int .i64 0)]), oN (.store 5 (.t 5) (.t 16))])
 (.seq (.regD [oD 12 29 0 (.bslice 9 [(.int .i64 0), (.int .i64 0), (.str []), (.int .i64 0), (.int .i64 0), (.int .i64 0), (.int .i64 0), (.int .u64 0), .nilSlice] 1 [(0, 9, (.c (.agg [(.int .i64 0), (.int .i64 0), (.str []), (.int .i64 0), (.int .i64 0), (.int .i64 0), (.int .i64 0), (.int .u64 0), .nilSlice])))]), oD 0 17 0 (.mov (.t 1)), oD 1 18 1 (.nilck (.t 17)), oD 2 19 3 (.faddr 8 (.t 18)), oD 3 20 7 (.load false 1 (.t 19)), oD 4 21 0 (.faddr 4 (.t 5)), oD 5 22 16 (.load false 1 (.t 21)), oD 6 23 0 (.faddr 1 (.t 5)), oD 7 24 64 (.load false 1 (.t 23)), oD 8 25 0 (.mov (.t 0)), oD 9 26 256 (.call 89 [(.t 25)]), oD 10 27 1008 (.build [(.int .i64 0), (.int .i64 0), (.str []), (.int .i64 0), (.int .i64 0), (.int .i64 0), (.int .i64 0), (.int .u64 0), .nilSlice] [(0, 1, (.c (.int .i64 8))), (1, 1, (.t 22)), (2, 1, (.t 24)), (3, 1, (.t 26))]), oD 11 28 15 (.lenL (.t 20)), oD 13 30 8191 (.append .own 9 96 (.t 20) (.t 29)), oD 14 31 16383 (.iaddr 9 (.t 30) (.t 28)), oE 15 32767 (.store 9 (.t 31) (.t 27)), oD 16 32 16383 (.nilck (.t 17)), oD 17 33 81919 (.faddr 8 (.t 32)), oE 18 212991 (.store 1 (.t 33) (.t 30))])
 (.reg [oT 34 (.mov (.t 1)), oT 35 (.nilck (.t 34)), oT 36 (.faddr 4 (.t 35)), oT 37 (.load false 1 (.t 36)), oT 38 (.bin .add (.t 37) (.c (.int .i64 1))), oT 39 (.nilck (.t 34)), oT 40 (.faddr 4 (.t 39)), oN (.store 1 (.t 40) (.t 38))]))))
 (.reg [oT 13 (.mov (.t 0)), oT 14 (.call 135 [(.t 13), (.c (.str [44]))]), oT 4 (.mov (.t 14))]))))))
 (.reg [oT 41 (.mov (.t 0)), oT 42 (.call 92 [(.t 41), (.c (.str [41]))])]))) []
/-- (*stockade/tree.parser).block -/
def m91 : MFun := .code 22 (
 .seq (.reg [oT 2 (.new .own [(.int .i64 0), (.int .i64 0), (.str []), (.int .i64 0), (.int .i64 0), (.int .i64 0), (.int .i64 0), (.int .u64 0), .nilSlice])])
 (.seq (.reg [oT 4 (.mov (.t 0)), oT 5 (.call 136 [(.t 4), (.c (.str [123]))]), oT 6 (.fld false 4 1 (.t 5)), oT 7 (.build [(.int .i64 0), (.int .i64 0), (.str []), (.int .i64 0), (.int .i64 0), (.int .i64 0), (.int .i64 0), (.int .u64 0), .nilSlice] [(0, 1, (.c (.int .i64 9))), (1, 1, (.t 6))]), oT 3 (.new .own [(.int .i64 0), (.int .i64 0), (.str []), (.int .i64 0), (.int .i64 0), (.int .i64 0), (.int .i64 0), (.int .u64 0), .nilSlice]), oN (.store 9 (.t 3) (.t 7))])
 (.seq (.block 0 (.loop (.seq (.seq (.reg [oT 8 (.mov (.t 0)), oT 9 (.bslice 1 [(.str [])] 1 [(0, 1, (.c (.str [125])))]), oT 10 (.call 86 [(.t 8), (.t 9)]), oT 11 (.un .not (.t 10))])
 (.cond (.t 11)
  (.skip)
  (.exit 0)))
 (.block 1 (.regD [oD 0 12 0 (.faddr 8 (.t 3)), oD 1 13 1 (.load false 1 (.t 12)), oD 2 14 0 (.mov (.t 0)), oD 3 15 4 (.call 137 [(.t 14)]), oD 4 16 12 (.bslice 9 [(.int .i64 0), (.int .i64 0), (.str []), (.int .i64 0), (.int .i64 0), (.int .i64 0), (.int .i64 0), (.int .u64 0), .nilSlice] 1 [(0, 9, (.t 15))]), oD 5 17 31 (.append .own 9 96 (.t 13) (.t 16)), oD 6 18 63 (.faddr 8 (.t 3)), oE 7 127 (.store 1 (.t 18) (.t 17))])))))
 (.seq (.reg [oT 19 (.mov (.t 0)), oT 20 (.call 138 [(.t 19), (.c (.str [125]))])])
 (.seq (.reg [oT 21 (.load true 9 (.t 3)), oN (.store 9 (.t 2) (.t 21))])
 (.ret)))))) [.cell 2 true 9]
/-- (*stockade/tree.parser).must -/
def m92 : MFun := .code 24 (
 .seq (.reg [oT 4 (.new .own [(.int .i64 0), (.str []), (.int .i64 0), (.int .u64 0), (.int .i64 0)])])
 (.seq (.seq (.reg [oT 6 (.mov (.t 0)), oT 7 (.mov (.t 1)), oT 8 (.bslice 1 [(.str [])] 1 [(0, 1, (.t 7))]), oT 9 (.call 86 [(.t 6), (.t 8)]), oT 10 (.un .not (.t 9))])
 (.cond (.t 10)
  (.reg [oT 11 (.mov (.t 0)), oT 12 (.call 85 [(.t 11)])])
  (.skip)))
 (.seq (.reg [oT 13 (.mov (.t 0)), oT 14 (.call 48 [(.t 13)]), oT 5 (.new .own [(.int .i64 0), (.str []), (.int .i64 0), (.int .u64 0), (.int .i64 0)]), oN (.store 5 (.t 5) (.t 14))])
 (.seq (.reg [oT 15 (.mov (.t 0)), oT 16 (.mov (.t 0)), oT 17 (.nilck (.t 16)), oT 18 (.faddr 0 (.t 17)), oT 19 (.load false 1 (.t 18)), oT 20 (.slc 5 (.t 19) (some (.c (.int .i64 1))) none none), oT 21 (.nilck (.t 15)), oT 22 (.faddr 0 (.t 21)), oN (.store 1 (.t 22) (.t 20))])
 (.seq (.reg [oT 23 (.load true 5 (.t 5)), oN (.store 5 (.t 4) (.t 23))])
 (.ret)))))) [.cell 4 true 5]
/-- stockade/show.inForm$1 -/
def m93 : MFun := .code 16 (
 .seq (.reg [oT 4 (.recover), oT 1 (.mov (.t 4))])
 (.seq (.reg [oT 5 (.mov (.t 1)), oT 6 (.eqv true (.one .iface) (.t 5) (.c .nilIface))])
 (.cond (.t 6)
  (.seq (.seq (.reg [oT 8 (.mov (.t 1)), oT 9 (.tassert 145 (.agg []) (.t 8)), oT 7 (.mov (.t 9)), oT 10 (.ext (.t 7) 0), oT 11 (.ext (.t 7) 1), oT 2 (.new .own []), oN (.store 0 (.t 2) (.t 10)), oT 3 (.mov (.t 11))])
  (.seq (.reg [oT 12 (.mov (.t 3)), oT 13 (.un .not (.t 12))])
  (.cond (.t 13)
   (.reg [oT 14 (.mov (.t 1)), oN (.panic (.t 14))])
   (.skip))))
  (.reg [oT 15 (.load false 1 (.c (.ptr 0 0))), oN (.store 1 (.t 0) (.t 15))]))
  (.skip)))) []
/-- (stockade/show.form).need -/
def m94 : MFun := .code 8 (
 .seq (.reg [oT 2 (.box (.t 0))])
 (.seq (.reg [oT 4 (.mov (.t 1)), oT 5 (.un .not (.t 4))])
 (.cond (.t 5)
  (.reg [oT 6 (.build [] []), oT 7 (.mkif 145 (.t 6)), oN (.panic (.t 7))])
  (.skip)))) []
/-- (stockade/show.form).bare -/
def m95 : MFun := .code 56 (
 .seq (.reg [oT 3 (.box (.t 0)), oT 4 (.box (.t 1)), oT 5 (.box (.t 2))])
 (.seq (.regD [oD 0 6 0 (.faddr 0 (.t 4)), oD 1 7 1 (.load false 1 (.t 6)), oD 2 8 0 (.faddr 1 (.t 4)), oD 3 9 4 (.load false 1 (.t 8)), oD 4 10 3 (.faddr 0 (.t 5)), oE 5 19 (.store 1 (.t 10) (.t 7)), oD 6 11 63 (.faddr 1 (.t 5)), oE 7 127 (.store 1 (.t 11) (.t 9)), oD 8 12 255 (.faddr 8 (.t 5)), oE 9 511 (.store 1 (.t 12) (.c .nilSlice))])
 (.seq (.reg [oT 13 (.faddr 8 (.t 4)), oN (.store 1 (.t 13) (.c .nilSlice))])
 (.reg [oT 14 (.load true 0 (.t 3)), oT 15 (.faddr 2 (.t 4)), oT 16 (.load false 1 (.t 15)), oT 17 (.faddr 2 (.t 5)), oT 18 (.load false 1 (.t 17)), oT 19 (.bin .eql (.t 16) (.t 18)), oT 20 (.mov (.t 19)), oG 21 20 (.faddr 3 (.t 4)), oG 22 20 (.load false 1 (.t 21)), oG 23 20 (.faddr 3 (.t 5)), oG 24 20 (.load false 1 (.t 23)), oG 25 20 (.bin .eql (.t 22) (.t 24)), oT 26 (.pick (.t 20) (.t 25) (.c (.bool false))), oT 27 (.mov (.t 26)), oG 28 27 (.faddr 4 (.t 4)), oG 29 27 (.load false 1 (.t 28)), oG 30 27 (.faddr 4 (.t 5)), oG 31 27 (.load false 1 (.t 30)), oG 32 27 (.bin .eql (.t 29) (.t 31)), oT 33 (.pick (.t 27) (.t 32) (.c (.bool false))), oT 34 (.mov (.t 33)), oG 35 34 (.faddr 5 (.t 4)), oG 36 34 (.load false 1 (.t 35)), oG 37 34 (.faddr 5 (.t 5)), oG 38 34 (.load false 1 (.t 37)), oG 39 34 (.bin .eql (.t 36) (.t 38)), oT 40 (.pick (.t 34) (.t 39) (.c (.bool false))), oT 41 (.mov (.t 40)), oG 42 41 (.faddr 6 (.t 4)), oG 43 41 (.load false 1 (.t 42)), oG 44 41 (.faddr 6 (.t 5)), oG 45 41 (.load false 1 (.t 44)), oG 46 41 (.bin .eql (.t 43) (.t 45)), oT 47 (.pick (.t 41) (.t 46) (.c (.bool false))), oT 48 (.mov (.t 47)), oG 49 48 (.faddr 7 (.t 4)), oG 50 48 (.load false 1 (.t 49)), oG 51 48 (.faddr 7 (.t 5)), oG 52 48 (.load false 1 (.t 51)), oG 53 48 (.bin .eql (.t 50) (.t 52)), oT 54 (.pick (.t 48) (.t 53) (.c (.bool false))), oT 55 (.call 94 [(.t 14), (.t 54)])])))) []
/-- (stockade/show.form).decl -/
def m96 : MFun := .code 130 (
 .seq (.reg [oT 2 (.box (.t 0)), oT 3 (.box (.t 1))])
 (.seq (.reg [oT 6 (.load true 0 (.t 2)), oT 7 (.faddr 2 (.t 3)), oT 8 (.load false 1 (.t 7)), oT 9 (.call 97 [(.t 6), (.t 8)])])
 (.seq (.seq (.reg [oT 10 (.faddr 0 (.t 3)), oT 11 (.load false 1 (.t 10))])
 (.block 0 (.seq (.seq (.reg [oT 15 (.bin .eql (.t 11) (.c (.int .i64 4))), oT 14 (.mov (.t 15))])
 (.cond (.t 14)
  (.skip)
  (.reg [oT 16 (.bin .eql (.t 11) (.c (.int .i64 6))), oT 14 (.mov (.t 16))])))
 (.cond (.t 14)
  (.reg [oT 17 (.load true 0 (.t 2)), oT 18 (.load true 9 (.t 3)), oT 19 (.faddr 2 (.t 3)), oT 20 (.load false 1 (.t 19)), oT 21 (.build [(.int .i64 0), (.int .i64 0), (.str []), (.int .i64 0), (.int .i64 0), (.int .i64 0), (.int .i64 0), (.int .u64 0), .nilSlice] [(2, 1, (.t 20))]), oT 22 (.call 95 [(.t 17), (.t 18), (.t 21)])])
  (.seq (.seq (.reg [oT 24 (.bin .eql (.t 11) (.c (.int .i64 2))), oT 23 (.mov (.t 24))])
  (.cond (.t 23)
   (.skip)
   (.seq (.reg [oT 25 (.bin .eql (.t 11) (.c (.int .i64 3))), oT 23 (.mov (.t 25))])
   (.cond (.t 23)
    (.skip)
    (.reg [oT 26 (.bin .eql (.t 11) (.c (.int .i64 5))), oT 23 (.mov (.t 26))])))))
  (.cond (.t 23)
   (.seq (.reg [oT 27 (.load true 0 (.t 2)), oT 28 (.faddr 3 (.t 3)), oT 29 (.load false 1 (.t 28)), oT 30 (.call 139 [(.t 27), (.t 29)])])
   (.seq (.reg [oT 31 (.load true 0 (.t 2)), oT 32 (.faddr 4 (.t 3)), oT 33 (.load false 1 (.t 32)), oT 34 (.bin .geq (.t 33) (.c (.int .i64 0))), oT 35 (.mov (.t 34)), oG 36 35 (.faddr 4 (.t 3)), oG 37 35 (.load false 1 (.t 36)), oG 38 35 (.bin .eql (.t 37) (.c (.int .i64 0))), oG 39 35 (.mov (.t 38)), oH 40 39 (.faddr 0 (.t 3)), oH 41 39 (.load false 1 (.t 40)), oH 42 39 (.bin .neq (.t 41) (.c (.int .i64 2))), oG 43 35 (.pick (.t 39) (.c (.bool true)) (.t 42)), oT 44 (.pick (.t 35) (.t 43) (.c (.bool false))), oT 45 (.call 94 [(.t 31), (.t 44)])])
   (.reg [oT 46 (.load true 0 (.t 2)), oT 47 (.load true 9 (.t 3)), oT 48 (.faddr 2 (.t 3)), oT 49 (.load false 1 (.t 48)), oT 50 (.faddr 3 (.t 3)), oT 51 (.load false 1 (.t 50)), oT 52 (.faddr 4 (.t 3)), oT 53 (.load false 1 (.t 52)), oT 54 (.build [(.int .i64 0), (.int .i64 0), (.str []), (.int .i64 0), (.int .i64 0), (.int .i64 0), (.int .i64 0), (.int .u64 0), .nilSlice] [(2, 1, (.t 49)), (3, 1, (.t 51)), (4, 1, (.t 53))]), oT 55 (.call 95 [(.t 46), (.t 47), (.t 54)])])))
   (.seq (.reg [oT 57 (.bin .eql (.t 11) (.c (.int .i64 7))), oT 56 (.mov (.t 57))])
   (.cond (.t 56)
    (.seq (.reg [oT 58 (.load true 0 (.t 2)), oT 59 (.faddr 8 (.t 3)), oT 60 (.load false 1 (.t 59)), oT 61 (.lenL (.t 60)), oT 62 (.bin .geq (.t 61) (.c (.int .i64 1))), oT 63 (.call 94 [(.t 58), (.t 62)])])
    (.seq (.reg [oT 64 (.load true 0 (.t 2)), oT 65 (.load true 9 (.t 3)), oT 66 (.faddr 2 (.t 3)), oT 67 (.load false 1 (.t 66)), oT 68 (.faddr 8 (.t 3)), oT 69 (.load false 1 (.t 68)), oT 70 (.lenL (.t 69)), oT 71 (.bin .sub (.t 70) (.c (.int .i64 1))), oT 72 (.build [(.int .i64 0), (.int .i64 0), (.str []), (.int .i64 0), (.int .i64 0), (.int .i64 0), (.int .i64 0), (.int .u64 0), .nilSlice] [(2, 1, (.t 67)), (4, 1, (.t 71))]), oT 73 (.call 95 [(.t 64), (.t 65), (.t 72)])])
    (.seq (.seq (.reg [oT 74 (.faddr 8 (.t 3)), oT 75 (.load false 1 (.t 74)), oT 76 (.faddr 8 (.t 3)), oT 77 (.load false 1 (.t 76)), oT 78 (.lenL (.t 77)), oT 79 (.bin .sub (.t 78) (.c (.int .i64 1))), oT 80 (.slc 9 (.t 75) none (some (.t 79)) none), oT 81 (.lenL (.t 80)), oT 82 (.mov (.c (.int .i64 0)))])
    (.block 1 (.loop (.seq (.reg [oT 83 (.bin .lss (.t 82) (.t 81))])
    (.seq (.cond (.t 83)
     (.skip)
     (.exit 1))
    (.seq (.block 2 (.seq (.reg [oT 84 (.iaddr 9 (.t 80) (.t 82)), oT 85 (.load true 9 (.t 84)), oT 5 (.new .own [(.int .i64 0), (.int .i64 0), (.str []), (.int .i64 0), (.int .i64 0), (.int .i64 0), (.int .i64 0), (.int .u64 0), .nilSlice]), oN (.store 9 (.t 5) (.t 85))])
    (.seq (.reg [oT 86 (.load true 0 (.t 2)), oT 87 (.faddr 0 (.t 5)), oT 88 (.load false 1 (.t 87)), oT 89 (.bin .eql (.t 88) (.c (.int .i64 8))), oT 90 (.mov (.t 89)), oG 91 90 (.faddr 8 (.t 5)), oG 92 90 (.load false 1 (.t 91)), oG 93 90 (.lenL (.t 92)), oG 94 90 (.bin .eql (.t 93) (.c (.int .i64 0))), oT 95 (.pick (.t 90) (.t 94) (.c (.bool false))), oT 96 (.call 94 [(.t 86), (.t 95)])])
    (.seq (.reg [oT 97 (.load true 0 (.t 2)), oT 98 (.faddr 2 (.t 5)), oT 99 (.load false 1 (.t 98)), oT 100 (.call 97 [(.t 97), (.t 99)])])
    (.seq (.reg [oT 101 (.load true 0 (.t 2)), oT 102 (.faddr 3 (.t 5)), oT 103 (.load false 1 (.t 102)), oT 104 (.call 139 [(.t 101), (.t 103)])])
    (.reg [oT 105 (.load true 0 (.t 2)), oT 106 (.load true 9 (.t 5)), oT 107 (.faddr 2 (.t 5)), oT 108 (.load false 1 (.t 107)), oT 109 (.faddr 3 (.t 5)), oT 110 (.load false 1 (.t 109)), oT 111 (.build [(.int .i64 0), (.int .i64 0), (.str []), (.int .i64 0), (.int .i64 0), (.int .i64 0), (.int .i64 0), (.int .u64 0), .nilSlice] [(2, 1, (.t 108)), (3, 1, (.t 110))]), oT 112 (.call 95 [(.t 105), (.t 106), (.t 111)])]))))))
    (.reg [oT 113 (.bin .add (.t 82) (.c (.int .i64 1))), oT 82 (.mov (.t 113))])))))))
    (.seq (.regD [oD 0 114 0 (.load true 0 (.t 2)), oD 1 115 0 (.faddr 8 (.t 3)), oD 2 116 2 (.load false 1 (.t 115)), oD 3 117 0 (.faddr 8 (.t 3)), oD 4 118 8 (.load false 1 (.t 117)), oD 5 119 24 (.lenL (.t 118)), oD 6 120 56 (.bin .sub (.t 119) (.c (.int .i64 1))), oD 7 121 126 (.iaddr 9 (.t 116) (.t 120)), oD 8 122 254 (.load true 9 (.t 121)), oD 9 123 511 (.call 140 [(.t 114), (.t 122)])])
    (.ret)))))
    (.reg [oT 12 (.load true 0 (.t 2)), oT 13 (.call 94 [(.t 12), (.c (.bool false))])])))))))))
 (.reg [oT 124 (.load true 0 (.t 2)), oT 125 (.faddr 8 (.t 3)), oT 126 (.load false 1 (.t 125)), oT 127 (.lenL (.t 126)), oT 128 (.bin .eql (.t 127) (.c (.int .i64 0))), oT 129 (.call 94 [(.t 124), (.t 128)])])))) []
/-- (stockade/show.form).word -/
def m97 : MFun := .code 36 (
 .seq (.reg [oT 2 (.box (.t 0))])
 (.seq (.reg [oT 7 (.mov (.t 1)), oT 8 (.call 33 [(.t 7)]), oT 6 (.mov (.t 8)), oT 9 (.ext (.t 6) 0), oT 10 (.ext (.t 6) 1), oT 5 (.new .own [.nilIface, (.int .i64 0)]), oT 4 (.mov (.t 9)), oN (.store 2 (.t 5) (.t 10))])
 (.regD [oD 0 11 0 (.load true 0 (.t 2)), oD 1 12 0 (.faddr 0 (.t 5)), oD 2 13 2 (.load false 1 (.t 12)), oD 3 14 6 (.eqv false (.one .iface) (.t 13) (.c .nilIface)), oD 4 15 14 (.mov (.t 14)), (5, ⟨(some 16), .mov (.t 4), (some (15, true)), 30⟩), (6, ⟨(some 17), .lenL (.t 16), (some (15, true)), 62⟩), (7, ⟨(some 18), .bin .eql (.t 17) (.c (.int .i64 1)), (some (15, true)), 126⟩), oD 8 19 254 (.pick (.t 15) (.t 18) (.c (.bool false))), oD 9 20 510 (.mov (.t 19)), (10, ⟨(some 21), .mov (.t 4), (some (20, true)), 1022⟩), (11, ⟨(some 22), .iaddr 5 (.t 21) (.c (.int .i64 0)), (some (20, true)), 2046⟩), (12, ⟨(some 23), .faddr 0 (.t 22), (some (20, true)), 4094⟩), (13, ⟨(some 24), .load false 1 (.t 23), (some (20, true)), 8190⟩), (14, ⟨(some 25), .bin .eql (.t 24) (.c (.int .i64 1)), (some (20, true)), 16382⟩), oD 15 26 32766 (.pick (.t 20) (.t 25) (.c (.bool false))), oD 16 27 65534 (.mov (.t 26)), (17, ⟨(some 28), .mov (.t 4), (some (27, true)), 131070⟩), (18, ⟨(some 29), .iaddr 5 (.t 28) (.c (.int .i64 0)), (some (27, true)), 262142⟩), (19, ⟨(some 30), .faddr 1 (.t 29), (some (27, true)), 524286⟩), (20, ⟨(some 31), .load false 1 (.t 30), (some (27, true)), 1048574⟩), (21, ⟨(some 32), .mov (.t 1), (some (27, true)), 131070⟩), (22, ⟨(some 33), .bin .eql (.t 31) (.t 32), (some (27, true)), 4194302⟩), oD 23 34 8388606 (.pick (.t 27) (.t 33) (.c (.bool false))), oD 24 35 16777215 (.call 94 [(.t 11), (.t 34)])]))) []
/-- stockade/show.rank -/
def m98 : MFun := .code 30 (
 .seq (.reg [oT 2 (.mov (.c (.int .i64 0)))])
 (.seq (.seq (.reg [oT 7 (.bslice 1 [(.str [])] 1 [(0, 1, (.c (.str [124, 124])))]), oT 8 (.bslice 1 [(.str [])] 1 [(0, 1, (.c (.str [38, 38])))]), oT 9 (.bslice 1 [(.str []), (.str []), (.str []), (.str []), (.str []), (.str [])] 6 [(0, 1, (.c (.str [61, 61]))), (1, 1, (.c (.str [33, 61]))), (2, 1, (.c (.str [60]))), (3, 1, (.c (.str [60, 61]))), (4, 1, (.c (.str [62]))), (5, 1, (.c (.str [62, 61])))]), oT 10 (.bslice 1 [(.str []), (.str [])] 2 [(0, 1, (.c (.str [43]))), (1, 1, (.c (.str [45])))]), oT 11 (.bslice 1 [(.str []), (.str []), (.str [])] 3 [(0, 1, (.c (.str [42]))), (1, 1, (.c (.str [47]))), (2, 1, (.c (.str [37])))]), oT 12 (.build [.nilSlice, .nilSlice, .nilSlice, .nilSlice, .nilSlice] [(0, 1, (.t 7)), (1, 1, (.t 8)), (2, 1, (.t 9)), (3, 1, (.t 10)), (4, 1, (.t 11))]), oT 13 (.mov (.c (.int .i64 0)))])
 (.block 0 (.loop (.seq (.reg [oT 14 (.bin .lss (.t 13) (.c (.int .i64 5)))])
 (.seq (.cond (.t 14)
  (.skip)
  (.exit 0))
 (.seq (.block 1 (.seq (.reg [oT 15 (.mov (.t 13)), oT 16 (.idxa false 5 1 (.t 12) (.t 13)), oT 3 (.mov (.t 15)), oT 4 (.mov (.t 16))])
 (.seq (.reg [oT 17 (.mov (.t 4)), oT 18 (.lenL (.t 17)), oT 19 (.mov (.c (.int .i64 0)))])
 (.block 2 (.loop (.seq (.reg [oT 20 (.bin .lss (.t 19) (.t 18))])
 (.seq (.cond (.t 20)
  (.skip)
  (.exit 2))
 (.seq (.block 3 (.seq (.reg [oT 21 (.iaddr 1 (.t 17) (.t 19)), oT 22 (.load false 1 (.t 21)), oT 6 (.mov (.t 22))])
 (.seq (.reg [oT 23 (.mov (.t 6)), oT 24 (.mov (.t 0)), oT 25 (.bin .eql (.t 23) (.t 24))])
 (.cond (.t 25)
  (.seq (.reg [oT 26 (.mov (.t 3)), oT 27 (.bin .add (.t 26) (.c (.int .i64 1))), oT 2 (.mov (.t 27))])
  (.ret))
  (.skip)))))
 (.reg [oT 28 (.bin .add (.t 19) (.c (.int .i64 1))), oT 19 (.mov (.t 28))])))))))))
 (.reg [oT 29 (.bin .add (.t 13) (.c (.int .i64 1))), oT 13 (.mov (.t 29))])))))))
 (.seq (.reg [oT 2 (.mov (.c (.int .i64 0)))])
 (.ret)))) [.t 2]
/-- strconv.Itoa -/
def m99 : MFun := .code 5 (
 .seq (.reg [oT 2 (.mov (.c (.str [])))])
 (.seq (.reg [oT 3 (.mov (.t 0)), oT 4 (.call 141 [(.t 3)]), oT 2 (.mov (.t 4))])
 (.ret))) [.t 2]
/-- stockade/show.kid -/
def m102 : MFun := .code 15 (
 .seq (.reg [oT 2 (.box (.t 0)), oT 4 (.mov (.c (.str [])))])
 (.seq (.seq (.reg [oT 5 (.load true 9 (.t 2)), oT 6 (.call 103 [(.t 5)]), oT 7 (.mov (.t 1)), oT 8 (.bin .lss (.t 6) (.t 7))])
 (.cond (.t 8)
  (.seq (.reg [oT 9 (.load true 9 (.t 2)), oT 10 (.call 58 [(.t 9)]), oT 11 (.bin .add (.c (.str [40])) (.t 10)), oT 12 (.bin .add (.t 11) (.c (.str [41]))), oT 4 (.mov (.t 12))])
  (.ret))
  (.skip)))
 (.seq (.reg [oT 13 (.load true 9 (.t 2)), oT 14 (.call 58 [(.t 13)]), oT 4 (.mov (.t 14))])
 (.ret)))) [.t 4]
/-- stockade/show.ranked -/
def m103 : MFun := .code 9 (
 .seq (.reg [oT 1 (.box (.t 0)), oT 2 (.mov (.c (.int .i64 0)))])
 (.seq (.seq (.reg [oT 3 (.faddr 0 (.t 1)), oT 4 (.load false 1 (.t 3)), oT 5 (.bin .neq (.t 4) (.c (.int .i64 31)))])
 (.cond (.t 5)
  (.seq (.reg [oT 2 (.mov (.c (.int .i64 6)))])
  (.ret))
  (.skip)))
 (.seq (.reg [oT 6 (.faddr 2 (.t 1)), oT 7 (.load false 1 (.t 6)), oT 8 (.call 98 [(.t 7)]), oT 2 (.mov (.t 8))])
 (.ret)))) [.t 2]
/-- (*stockade/tree.parser).row -/
def m104 : MFun := .code 38 (
 .seq (.reg [oT 8 (.new .own [(.int .i64 0), (.int .i64 0), (.str []), (.int .i64 0), (.int .i64 0), (.int .i64 0), (.int .i64 0), (.int .u64 0), .nilSlice])])
 (.seq (.reg [oT 11 (.mov (.t 1)), oT 12 (.callv (.t 11) []), oT 9 (.new .own [(.int .i64 0), (.int .i64 0), (.str []), (.int .i64 0), (.int .i64 0), (.int .i64 0), (.int .i64 0), (.int .u64 0), .nilSlice]), oN (.store 9 (.t 9) (.t 12))])
 (.seq (.block 0 (.loop (.seq (.seq (.reg [oT 13 (.mov (.t 0)), oT 14 (.mov (.t 3)), oT 15 (.call 86 [(.t 13), (.t 14)])])
 (.cond (.t 15)
  (.skip)
  (.exit 0)))
 (.block 1 (.seq (.reg [oT 16 (.mov (.t 0)), oT 17 (.call 48 [(.t 16)]), oT 18 (.fld false 1 1 (.t 17)), oT 10 (.mov (.t 18))])
 (.seq (.reg [oT 19 (.mov (.t 0)), oT 20 (.mov (.t 0)), oT 21 (.nilck (.t 20)), oT 22 (.faddr 0 (.t 21)), oT 23 (.load false 1 (.t 22)), oT 24 (.slc 5 (.t 23) (some (.c (.int .i64 1))) none none), oT 25 (.nilck (.t 19)), oT 26 (.faddr 0 (.t 25)), oN (.store 1 (.t 26) (.t 24))])
 (.seq (.regD [oD 0 27 0 (.faddr 1 (.t 9)), oD 1 28 1 (.load false 1 (.t 27)), oD 2 29 0 (.mov (.t 10)), oD 3 30 0 (.load true 9 (.t 9)), oD 4 31 0 (.mov (.t 1)), oD 5 32 16 (.callv (.t 31) []), oD 6 33 56 (.bslice 9 [(.int .i64 0), (.int .i64 0), (.str []), (.int .i64 0), (.int .i64 0), (.int .i64 0), (.int .i64 0), (.int .u64 0), .nilSlice, (.int .i64 0), (.int .i64 0), (.str []), (.int .i64 0), (.int .i64 0), (.int .i64 0), (.int .i64 0), (.int .u64 0), .nilSlice] 2 [(0, 9, (.t 30)), (9, 9, (.t 32))]), oD 7 34 127 (.build [(.int .i64 0), (.int .i64 0), (.str []), (.int .i64 0), (.int .i64 0), (.int .i64 0), (.int .i64 0), (.int .u64 0), .nilSlice] [(0, 1, (.c (.int .i64 31))), (1, 1, (.t 28)), (2, 1, (.t 29)), (8, 1, (.t 33))]), oE 8 255 (.store 9 (.t 9) (.t 34))])
 (.seq (.reg [oT 35 (.mov (.t 2)), oT 36 (.un .not (.t 35))])
 (.cond (.t 36)
  (.exit 0)
  (.skip))))))))))
 (.seq (.reg [oT 37 (.load true 9 (.t 9)), oN (.store 9 (.t 8) (.t 37))])
 (.ret))))) [.cell 8 true 9]
/-- (*stockade/tree.parser).and -/
def m105 : MFun := .code 8 (
 .seq (.reg [oT 2 (.new .own [(.int .i64 0), (.int .i64 0), (.str []), (.int .i64 0), (.int .i64 0), (.int .i64 0), (.int .i64 0), (.int .u64 0), .nilSlice])])
 (.seq (.reg [oT 3 (.mov (.t 0)), oT 4 (.mov (.t 0)), oT 5 (.mkfn (.func 146) [(.t 4)] []), oT 6 (.bslice 1 [(.str [])] 1 [(0, 1, (.c (.str [38, 38])))]), oT 7 (.call 104 [(.t 3), (.t 5), (.c (.bool true)), (.t 6)]), oN (.store 9 (.t 2) (.t 7))])
 (.ret))) [.cell 2 true 9]
/-- (*stockade/show.page).line -/
def m107 : MFun := .code 17 (
 .regD [oD 0 4 0 (.mov (.t 0)), oD 1 5 1 (.nilck (.t 4)), oD 2 6 3 (.faddr 0 (.t 5)), oD 3 7 0 (.mov (.t 0)), oD 4 8 8 (.nilck (.t 7)), oD 5 9 24 (.faddr 2 (.t 8)), oD 6 10 56 (.load false 1 (.t 9)), oD 7 11 120 (.call 101 [(.c (.str [9])), (.t 10)]), oD 8 12 0 (.mov (.t 1)), oD 9 13 504 (.call 109 [(.t 12), (.c (.str []))]), oD 10 14 1016 (.bin .add (.t 11) (.t 13)), oD 11 15 2040 (.bin .add (.t 14) (.c (.str [10]))), oD 12 16 4095 (.call 144 [(.t 6), (.t 15)])]) []
/-- stockade/show.typ -/
def m108 : MFun := .code 7 (
 .seq (.reg [oT 2 (.mov (.c (.str [])))])
 (.seq (.reg [oT 3 (.build [(.str []), (.str []), (.str [])] [(0, 1, (.c (.str [105, 110, 116]))), (1, 1, (.c (.str [102, 108, 111, 97, 116]))), (2, 1, (.c (.str [98, 111, 111, 108])))]), oT 4 (.mov (.t 0)), oT 5 (.bin .sub (.t 4) (.c (.int .i64 1))), oT 6 (.idxa false 3 1 (.t 3) (.t 5)), oT 2 (.mov (.t 6))])
 (.ret))) [.t 2]
/-- (*stockade/show.page).block -/
def m110 : MFun := .code 31 (
 .seq (.reg [oT 3 (.box (.t 1))])
 (.seq (.reg [oT 6 (.mov (.t 0)), oT 7 (.nilck (.t 6)), oT 8 (.faddr 2 (.t 7)), oT 9 (.load false 1 (.t 8)), oT 10 (.bin .add (.t 9) (.c (.int .i64 1))), oT 11 (.nilck (.t 6)), oT 12 (.faddr 2 (.t 11)), oN (.store 1 (.t 12) (.t 10))])
 (.seq (.seq (.reg [oT 13 (.faddr 8 (.t 3)), oT 14 (.load false 1 (.t 13)), oT 15 (.lenL (.t 14)), oT 16 (.mov (.c (.int .i64 0)))])
 (.block 0 (.loop (.seq (.reg [oT 17 (.bin .lss (.t 16) (.t 15))])
 (.seq (.cond (.t 17)
  (.skip)
  (.exit 0))
 (.seq (.block 1 (.seq (.reg [oT 18 (.iaddr 9 (.t 14) (.t 16)), oT 19 (.load true 9 (.t 18)), oT 5 (.new .own [(.int .i64 0), (.int .i64 0), (.str []), (.int .i64 0), (.int .i64 0), (.int .i64 0), (.int .i64 0), (.int .u64 0), .nilSlice]), oN (.store 9 (.t 5) (.t 19))])
 (.reg [oT 20 (.mov (.t 0)), oT 21 (.load true 9 (.t 5)), oT 22 (.call 149 [(.t 20), (.t 21)])])))
 (.reg [oT 23 (.bin .add (.t 16) (.c (.int .i64 1))), oT 16 (.mov (.t 23))])))))))
 (.reg [oT 24 (.mov (.t 0)), oT 25 (.nilck (.t 24)), oT 26 (.faddr 2 (.t 25)), oT 27 (.load false 1 (.t 26)), oT 28 (.bin .sub (.t 27) (.c (.int .i64 1))), oT 29 (.nilck (.t 24)), oT 30 (.faddr 2 (.t 29)), oN (.store 1 (.t 30) (.t 28))])))) []
/-- (*stockade/token.reader).while -/
def m112 : MFun := .code 30 (
 .seq (.reg [oT 4 (.mov (.c (.str [])))])
 (.seq (.reg [oT 6 (.mov (.t 0)), oT 7 (.nilck (.t 6)), oT 8 (.faddr 1 (.t 7)), oT 9 (.load false 1 (.t 8)), oT 5 (.mov (.t 9))])
 (.seq (.block 0 (.loop (.seq (.seq (.reg [oT 10 (.mov (.t 0)), oT 11 (.mov (.t 1)), oT 12 (.call 116 [(.t 10), (.t 11)])])
 (.cond (.t 12)
  (.skip)
  (.exit 0)))
 (.block 1 (.reg [oT 13 (.mov (.t 0)), oT 14 (.nilck (.t 13)), oT 15 (.faddr 1 (.t 14)), oT 16 (.load false 1 (.t 15)), oT 17 (.bin .add (.t 16) (.c (.int .i64 1))), oT 18 (.nilck (.t 13)), oT 19 (.faddr 1 (.t 18)), oN (.store 1 (.t 19) (.t 17))])))))
 (.seq (.regD [oD 0 20 0 (.mov (.t 0)), oD 1 21 1 (.nilck (.t 20)), oD 2 22 3 (.faddr 0 (.t 21)), oD 3 23 7 (.load false 1 (.t 22)), oD 4 24 0 (.mov (.t 5)), oD 5 25 0 (.mov (.t 0)), oD 6 26 32 (.nilck (.t 25)), oD 7 27 96 (.faddr 1 (.t 26)), oD 8 28 224 (.load false 1 (.t 27)), oD 9 29 511 (.sls (.t 23) (some (.t 24)) (some (.t 28))), oD 10 4 1023 (.mov (.t 29))])
 (.ret))))) [.t 4]
/-- stockade/token.blank -/
def m113 : MFun := .code 17 (
 .seq (.reg [oT 2 (.mov (.c (.bool false)))])
 (.seq (.reg [oT 3 (.mov (.t 0)), oT 4 (.bin .eql (.t 3) (.c (.int .u8 32))), oT 5 (.mov (.t 4)), oH 6 5 (.mov (.t 0)), oH 7 5 (.bin .eql (.t 6) (.c (.int .u8 9))), oT 8 (.pick (.t 5) (.c (.bool true)) (.t 7)), oT 9 (.mov (.t 8)), oH 10 9 (.mov (.t 0)), oH 11 9 (.bin .eql (.t 10) (.c (.int .u8 10))), oT 12 (.pick (.t 9) (.c (.bool true)) (.t 11)), oT 13 (.mov (.t 12)), oH 14 13 (.mov (.t 0)), oH 15 13 (.bin .eql (.t 14) (.c (.int .u8 13))), oT 16 (.pick (.t 13) (.c (.bool true)) (.t 15)), oT 2 (.mov (.t 16))])
 (.ret))) [.t 2]
/-- strings.HasPrefix -/
def m114 : MFun := .code 8 (
 .seq (.reg [oT 4 (.mov (.c (.bool false)))])
 (.seq (.reg [oT 5 (.mov (.t 0)), oT 6 (.mov (.t 1)), oT 7 (.call 151 [(.t 5), (.t 6)]), oT 4 (.mov (.t 7))])
 (.ret))) [.t 4]
/-- (*stockade/token.reader).skip$1 -/
def m115 : MFun := .code 5 (
 .seq (.reg [oT 2 (.mov (.c (.bool false)))])
 (.seq (.reg [oT 3 (.mov (.t 0)), oT 4 (.bin .neq (.t 3) (.c (.int .u8 10))), oT 2 (.mov (.t 4))])
 (.ret))) [.t 2]
/-- (*stockade/token.reader).here -/
def m116 : MFun := .code 28 (
 .seq (.reg [oT 4 (.mov (.c (.bool false)))])
 (.seq (.regD [oD 0 5 0 (.mov (.t 0)), oD 1 6 1 (.nilck (.t 5)), oD 2 7 3 (.faddr 1 (.t 6)), oD 3 8 7 (.load false 1 (.t 7)), oD 4 9 0 (.mov (.t 0)), oD 5 10 16 (.nilck (.t 9)), oD 6 11 48 (.faddr 0 (.t 10)), oD 7 12 112 (.load false 1 (.t 11)), oD 8 13 240 (.lenS (.t 12)), oD 9 14 511 (.bin .lss (.t 8) (.t 13)), oD 10 15 1023 (.mov (.t 14)), (11, ⟨(some 16), .mov (.t 1), (some (15, true)), 2047⟩), (12, ⟨(some 17), .mov (.t 0), (some (15, true)), 2047⟩), (13, ⟨(some 18), .nilck (.t 17), (some (15, true)), 6143⟩), (14, ⟨(some 19), .faddr 0 (.t 18), (some (15, true)), 14335⟩), (15, ⟨(some 20), .load false 1 (.t 19), (some (15, true)), 30719⟩), (16, ⟨(some 21), .mov (.t 0), (some (15, true)), 2047⟩), (17, ⟨(some 22), .nilck (.t 21), (some (15, true)), 67583⟩), (18, ⟨(some 23), .faddr 1 (.t 22), (some (15, true)), 198655⟩), (19, ⟨(some 24), .load false 1 (.t 23), (some (15, true)), 460799⟩), (20, ⟨(some 25), .idxs (.t 20) (.t 24), (some (15, true)), 1046527⟩), (21, ⟨(some 26), .callv (.t 16) [(.t 25)], (some (15, true)), 2097151⟩), oD 22 27 4194303 (.pick (.t 15) (.t 26) (.c (.bool false))), oD 23 4 8388607 (.mov (.t 27))])
 (.ret))) [.t 4]
/-- stockade/token.letter -/
def m117 : MFun := .code 21 (
 .seq (.reg [oT 2 (.mov (.c (.bool false)))])
 (.seq (.reg [oT 3 (.mov (.t 0)), oT 4 (.bin .geq (.t 3) (.c (.int .u8 97))), oT 5 (.mov (.t 4)), oG 6 5 (.mov (.t 0)), oG 7 5 (.bin .leq (.t 6) (.c (.int .u8 122))), oT 8 (.pick (.t 5) (.t 7) (.c (.bool false))), oT 9 (.mov (.t 8)), oH 10 9 (.mov (.t 0)), oH 11 9 (.bin .geq (.t 10) (.c (.int .u8 65))), oH 12 9 (.mov (.t 11)), oG 13 12 (.mov (.t 0)), oG 14 12 (.bin .leq (.t 13) (.c (.int .u8 90))), oH 15 9 (.pick (.t 12) (.t 14) (.c (.bool false))), oT 16 (.pick (.t 9) (.c (.bool true)) (.t 15)), oT 17 (.mov (.t 16)), oH 18 17 (.mov (.t 0)), oH 19 17 (.bin .eql (.t 18) (.c (.int .u8 95))), oT 20 (.pick (.t 17) (.c (.bool true)) (.t 19)), oT 2 (.mov (.t 20))])
 (.ret))) [.t 2]
/-- (*stockade/token.reader).word -/
def m118 : MFun := .code 26 (
 .seq (.reg [oT 2 (.new .own [(.int .i64 0), (.str []), (.int .i64 0), (.int .u64 0), (.int .i64 0)])])
 (.seq (.reg [oT 4 (.mov (.t 0)), oT 5 (.nilck (.t 4)), oT 6 (.faddr 1 (.t 5)), oT 7 (.load false 1 (.t 6)), oT 8 (.build [(.int .i64 0), (.str []), (.int .i64 0), (.int .u64 0), (.int .i64 0)] [(0, 1, (.c (.int .i64 1))), (4, 1, (.t 7))]), oT 3 (.new .own [(.int .i64 0), (.str []), (.int .i64 0), (.int .u64 0), (.int .i64 0)]), oN (.store 5 (.t 3) (.t 8))])
 (.seq (.seq (.reg [oT 9 (.mov (.t 0)), oT 10 (.call 112 [(.t 9), (.c (.func (.func 152) [] []))]), oT 11 (.faddr 1 (.t 3)), oN (.store 1 (.t 11) (.t 10))])
 (.seq (.reg [oT 12 (.faddr 1 (.t 3)), oT 13 (.load false 1 (.t 12)), oT 14 (.lenS (.t 13)), oT 15 (.bin .gtr (.t 14) (.c (.int .i64 24)))])
 (.cond (.t 15)
  (.reg [oT 16 (.mov (.t 0)), oT 17 (.load false 1 (.c (.ptr 7 0))), oT 18 (.faddr 4 (.t 3)), oT 19 (.load false 1 (.t 18)), oT 20 (.call 72 [(.t 16), (.t 17), (.t 19)])])
  (.skip))))
 (.seq (.seq (.reg [oT 21 (.faddr 1 (.t 3)), oT 22 (.load false 1 (.t 21)), oT 23 (.call 153 [(.t 22)])])
 (.cond (.t 23)
  (.reg [oT 24 (.faddr 0 (.t 3)), oN (.store 1 (.t 24) (.c (.int .i64 2)))])
  (.skip)))
 (.seq (.reg [oT 25 (.load true 5 (.t 3)), oN (.store 5 (.t 2) (.t 25))])
 (.ret)))))) [.cell 2 true 5]
/-- stockade/token.digit -/
def m119 : MFun := .code 9 (
 .seq (.reg [oT 2 (.mov (.c (.bool false)))])
 (.seq (.reg [oT 3 (.mov (.t 0)), oT 4 (.bin .geq (.t 3) (.c (.int .u8 48))), oT 5 (.mov (.t 4)), oG 6 5 (.mov (.t 0)), oG 7 5 (.bin .leq (.t 6) (.c (.int .u8 57))), oT 8 (.pick (.t 5) (.t 7) (.c (.bool false))), oT 2 (.mov (.t 8))])
 (.ret))) [.t 2]
/-- (*stockade/token.reader).number -/
def m120 : MFun := .code 70 (
 .seq (.reg [oT 2 (.new .own [(.int .i64 0), (.str []), (.int .i64 0), (.int .u64 0), (.int .i64 0)])])
 (.seq (.reg [oT 7 (.mov (.t 0)), oT 8 (.nilck (.t 7)), oT 9 (.faddr 1 (.t 8)), oT 10 (.load false 1 (.t 9)), oT 11 (.build [(.int .i64 0), (.str []), (.int .i64 0), (.int .u64 0), (.int .i64 0)] [(0, 1, (.c (.int .i64 3))), (4, 1, (.t 10))]), oT 3 (.new .own [(.int .i64 0), (.str []), (.int .i64 0), (.int .u64 0), (.int .i64 0)]), oN (.store 5 (.t 3) (.t 11))])
 (.seq (.reg [oT 12 (.faddr 1 (.t 3)), oN (.store 1 (.t 12) (.c (.str [48])))])
 (.seq (.seq (.regD [oD 0 13 0 (.mov (.t 0)), oD 1 14 1 (.nilck (.t 13)), oD 2 15 3 (.faddr 0 (.t 14)), oD 3 16 7 (.load false 1 (.t 15)), oD 4 17 0 (.mov (.t 0)), oD 5 18 16 (.nilck (.t 17)), oD 6 19 48 (.faddr 1 (.t 18)), oD 7 20 112 (.load false 1 (.t 19)), oD 8 21 255 (.idxs (.t 16) (.t 20)), oD 9 22 511 (.bin .eql (.t 21) (.c (.int .u8 48)))])
 (.cond (.t 22)
  (.reg [oT 23 (.mov (.t 0)), oT 24 (.nilck (.t 23)), oT 25 (.faddr 1 (.t 24)), oT 26 (.load false 1 (.t 25)), oT 27 (.bin .add (.t 26) (.c (.int .i64 1))), oT 28 (.nilck (.t 23)), oT 29 (.faddr 1 (.t 28)), oN (.store 1 (.t 29) (.t 27))])
  (.reg [oT 30 (.mov (.t 0)), oT 31 (.call 112 [(.t 30), (.c (.func (.func 119) [] []))]), oT 32 (.faddr 1 (.t 3)), oN (.store 1 (.t 32) (.t 31))])))
 (.seq (.reg [oT 4 (.mov (.c (.bool false)))])
 (.seq (.seq (.reg [oT 33 (.faddr 1 (.t 3)), oT 34 (.load false 1 (.t 33)), oT 35 (.lenS (.t 34)), oT 36 (.mov (.c (.int .i64 0)))])
 (.block 0 (.loop (.seq (.reg [oT 37 (.bin .lss (.t 36) (.t 35))])
 (.seq (.cond (.t 37)
  (.skip)
  (.exit 0))
 (.seq (.block 1 (.seq (.reg [oT 38 (.mov (.t 36)), oT 5 (.mov (.t 38))])
 (.seq (.reg [oT 39 (.faddr 1 (.t 3)), oT 40 (.load false 1 (.t 39)), oT 41 (.mov (.t 5)), oT 42 (.idxs (.t 40) (.t 41)), oT 43 (.bin .sub (.t 42) (.c (.int .u8 48))), oT 44 (.cvi .i64 (.t 43)), oT 6 (.mov (.t 44))])
 (.seq (.reg [oT 45 (.mov (.t 4)), oT 46 (.mov (.t 45)), oH 47 46 (.faddr 2 (.t 3)), oH 48 46 (.load false 1 (.t 47)), oH 49 46 (.mov (.t 6)), oH 50 46 (.bin .sub (.c (.int .i64 9223372036854775807)) (.t 49)), oH 51 46 (.bin .quo (.t 50) (.c (.int .i64 10))), oH 52 46 (.bin .gtr (.t 48) (.t 51)), oT 53 (.pick (.t 46) (.c (.bool true)) (.t 52)), oT 4 (.mov (.t 53))])
 (.reg [oT 54 (.faddr 2 (.t 3)), oT 55 (.load false 1 (.t 54)), oT 56 (.bin .mul (.c (.int .i64 10)) (.t 55)), oT 57 (.mov (.t 6)), oT 58 (.bin .add (.t 56) (.t 57)), oT 59 (.faddr 2 (.t 3)), oN (.store 1 (.t 59) (.t 58))])))))
 (.reg [oT 60 (.bin .add (.t 36) (.c (.int .i64 1))), oT 36 (.mov (.t 60))])))))))
 (.seq (.seq (.reg [oT 61 (.mov (.t 4))])
 (.cond (.t 61)
  (.reg [oT 62 (.mov (.t 0)), oT 63 (.load false 1 (.c (.ptr 2 0))), oT 64 (.faddr 4 (.t 3)), oT 65 (.load false 1 (.t 64)), oT 66 (.call 72 [(.t 62), (.t 63), (.t 65)])])
  (.skip)))
 (.seq (.reg [oT 67 (.mov (.t 0)), oT 68 (.call 154 [(.t 67)])])
 (.seq (.reg [oT 69 (.load true 5 (.t 3)), oN (.store 5 (.t 2) (.t 69))])
 (.ret)))))))))) [.cell 2 true 5]
/-- (*stockade/token.reader).float -/
def m121 : MFun := .code 85 (
 .seq (.reg [oT 2 (.new .own [(.int .i64 0), (.str []), (.int .i64 0), (.int .u64 0), (.int .i64 0)])])
 (.seq (.reg [oT 4 (.mov (.t 0)), oT 5 (.nilck (.t 4)), oT 6 (.faddr 1 (.t 5)), oT 7 (.load false 1 (.t 6)), oT 8 (.build [(.int .i64 0), (.str []), (.int .i64 0), (.int .u64 0), (.int .i64 0)] [(0, 1, (.c (.int .i64 4))), (4, 1, (.t 7))]), oT 3 (.new .own [(.int .i64 0), (.str []), (.int .i64 0), (.int .u64 0), (.int .i64 0)]), oN (.store 5 (.t 3) (.t 8))])
 (.seq (.reg [oT 9 (.mov (.t 0)), oT 10 (.nilck (.t 9)), oT 11 (.faddr 1 (.t 10)), oT 12 (.load false 1 (.t 11)), oT 13 (.bin .add (.t 12) (.c (.int .i64 1))), oT 14 (.nilck (.t 9)), oT 15 (.faddr 1 (.t 14)), oN (.store 1 (.t 15) (.t 13))])
 (.seq (.seq (.reg [oT 16 (.mov (.c (.int .i64 0)))])
 (.block 0 (.loop (.seq (.reg [oT 17 (.bin .lss (.t 16) (.c (.int .i64 16)))])
 (.seq (.cond (.t 17)
  (.skip)
  (.exit 0))
 (.seq (.block 1 (.seq (.seq (.regD [oD 0 18 0 (.mov (.t 0)), oD 1 19 1 (.nilck (.t 18)), oD 2 20 3 (.faddr 1 (.t 19)), oD 3 21 7 (.load false 1 (.t 20)), oD 4 22 0 (.mov (.t 0)), oD 5 23 16 (.nilck (.t 22)), oD 6 24 48 (.faddr 0 (.t 23)), oD 7 25 112 (.load false 1 (.t 24)), oD 8 26 240 (.lenS (.t 25)), oD 9 27 511 (.bin .geq (.t 21) (.t 26)), oD 10 28 1023 (.mov (.t 27)), (11, ⟨(some 29), .mov (.t 0), (some (28, false)), 2047⟩), (12, ⟨(some 30), .nilck (.t 29), (some (28, false)), 4095⟩), (13, ⟨(some 31), .faddr 0 (.t 30), (some (28, false)), 8191⟩), (14, ⟨(some 32), .load false 1 (.t 31), (some (28, false)), 16383⟩), (15, ⟨(some 33), .mov (.t 0), (some (28, false)), 2047⟩), (16, ⟨(some 34), .nilck (.t 33), (some (28, false)), 34815⟩), (17, ⟨(some 35), .faddr 1 (.t 34), (some (28, false)), 100351⟩), (18, ⟨(some 36), .load false 1 (.t 35), (some (28, false)), 231423⟩), (19, ⟨(some 37), .idxs (.t 32) (.t 36), (some (28, false)), 524287⟩), (20, ⟨(some 38), .call 155 [(.c (.str [48, 49, 50, 51, 52, 53, 54, 55, 56, 57, 97, 98, 99, 100, 101, 102])), (.t 37)], (some (28, false)), 1048575⟩), (21, ⟨(some 39), .bin .lss (.t 38) (.c (.int .i64 0)), (some (28, false)), 2097151⟩), oD 22 40 4194303 (.pick (.t 28) (.c (.bool true)) (.t 39))])
 (.cond (.t 40)
  (.reg [oT 41 (.mov (.t 0)), oT 42 (.load false 1 (.c (.ptr 3 0))), oT 43 (.faddr 4 (.t 3)), oT 44 (.load false 1 (.t 43)), oT 45 (.call 72 [(.t 41), (.t 42), (.t 44)])])
  (.skip)))
 (.seq (.regD [oD 0 46 0 (.faddr 3 (.t 3)), oD 1 47 1 (.load false 1 (.t 46)), oD 2 48 3 (.bin .shl (.t 47) (.c (.int .u64 4))), oD 3 49 0 (.mov (.t 0)), oD 4 50 8 (.nilck (.t 49)), oD 5 51 24 (.faddr 0 (.t 50)), oD 6 52 56 (.load false 1 (.t 51)), oD 7 53 0 (.mov (.t 0)), oD 8 54 128 (.nilck (.t 53)), oD 9 55 384 (.faddr 1 (.t 54)), oD 10 56 896 (.load false 1 (.t 55)), oD 11 57 2040 (.idxs (.t 52) (.t 56)), oD 12 58 4088 (.call 155 [(.c (.str [48, 49, 50, 51, 52, 53, 54, 55, 56, 57, 97, 98, 99, 100, 101, 102])), (.t 57)]), oD 13 59 8184 (.cvi .u64 (.t 58)), oD 14 60 16383 (.bin .or (.t 48) (.t 59)), oD 15 61 32767 (.faddr 3 (.t 3)), oE 16 65535 (.store 1 (.t 61) (.t 60))])
 (.reg [oT 62 (.mov (.t 0)), oT 63 (.nilck (.t 62)), oT 64 (.faddr 1 (.t 63)), oT 65 (.load false 1 (.t 64)), oT 66 (.bin .add (.t 65) (.c (.int .i64 1))), oT 67 (.nilck (.t 62)), oT 68 (.faddr 1 (.t 67)), oN (.store 1 (.t 68) (.t 66))]))))
 (.reg [oT 69 (.bin .add (.t 16) (.c (.int .i64 1))), oT 16 (.mov (.t 69))])))))))
 (.seq (.reg [oT 70 (.mov (.t 0)), oT 71 (.call 154 [(.t 70)])])
 (.seq (.regD [oD 0 72 0 (.mov (.t 0)), oD 1 73 1 (.nilck (.t 72)), oD 2 74 3 (.faddr 0 (.t 73)), oD 3 75 7 (.load false 1 (.t 74)), oD 4 76 0 (.faddr 4 (.t 3)), oD 5 77 16 (.load false 1 (.t 76)), oD 6 78 0 (.mov (.t 0)), oD 7 79 64 (.nilck (.t 78)), oD 8 80 192 (.faddr 1 (.t 79)), oD 9 81 448 (.load false 1 (.t 80)), oD 10 82 1023 (.sls (.t 75) (some (.t 77)) (some (.t 81))), oD 11 83 2047 (.faddr 1 (.t 3)), oE 12 4095 (.store 1 (.t 83) (.t 82))])
 (.seq (.reg [oT 84 (.load true 5 (.t 3)), oN (.store 5 (.t 2) (.t 84))])
 (.ret)))))))) [.cell 2 true 5]
/-- (*stockade/token.reader).mark -/
def m122 : MFun := .code 80 (
 .seq (.reg [oT 2 (.new .own [(.int .i64 0), (.str []), (.int .i64 0), (.int .u64 0), (.int .i64 0)])])
 (.seq (.seq (.reg [oT 5 (.build [(.str []), (.str []), (.str []), (.str []), (.str []), (.str []), (.str [])] [(0, 1, (.c (.str [58, 61]))), (1, 1, (.c (.str [61, 61]))), (2, 1, (.c (.str [33, 61]))), (3, 1, (.c (.str [60, 61]))), (4, 1, (.c (.str [62, 61]))), (5, 1, (.c (.str [38, 38]))), (6, 1, (.c (.str [124, 124])))]), oT 6 (.mov (.c (.int .i64 0)))])
 (.block 0 (.loop (.seq (.reg [oT 7 (.bin .lss (.t 6) (.c (.int .i64 7)))])
 (.seq (.cond (.t 7)
  (.skip)
  (.exit 0))
 (.seq (.block 1 (.seq (.reg [oT 8 (.idxa false 7 1 (.t 5) (.t 6)), oT 4 (.mov (.t 8))])
 (.seq (.regD [oD 0 9 0 (.mov (.t 0)), oD 1 10 1 (.nilck (.t 9)), oD 2 11 3 (.faddr 0 (.t 10)), oD 3 12 7 (.load false 1 (.t 11)), oD 4 13 0 (.mov (.t 0)), oD 5 14 16 (.nilck (.t 13)), oD 6 15 48 (.faddr 1 (.t 14)), oD 7 16 112 (.load false 1 (.t 15)), oD 8 17 255 (.sls (.t 12) (some (.t 16)) none), oD 9 18 0 (.mov (.t 4)), oD 10 19 1023 (.call 114 [(.t 17), (.t 18)])])
 (.cond (.t 19)
  (.seq (.reg [oT 20 (.mov (.t 0)), oT 21 (.nilck (.t 20)), oT 22 (.faddr 1 (.t 21)), oT 23 (.load false 1 (.t 22)), oT 24 (.bin .add (.t 23) (.c (.int .i64 2))), oT 25 (.nilck (.t 20)), oT 26 (.faddr 1 (.t 25)), oN (.store 1 (.t 26) (.t 24))])
  (.seq (.reg [oT 27 (.mov (.t 4)), oT 28 (.mov (.t 0)), oT 29 (.nilck (.t 28)), oT 30 (.faddr 1 (.t 29)), oT 31 (.load false 1 (.t 30)), oT 32 (.bin .sub (.t 31) (.c (.int .i64 2))), oT 33 (.build [(.int .i64 0), (.str []), (.int .i64 0), (.int .u64 0), (.int .i64 0)] [(0, 1, (.c (.int .i64 5))), (1, 1, (.t 27)), (4, 1, (.t 32))]), oN (.store 5 (.t 2) (.t 33))])
  (.ret)))
  (.skip)))))
 (.reg [oT 34 (.bin .add (.t 6) (.c (.int .i64 1))), oT 6 (.mov (.t 34))])))))))
 (.seq (.seq (.regD [oD 0 35 0 (.mov (.t 0)), oD 1 36 1 (.nilck (.t 35)), oD 2 37 3 (.faddr 0 (.t 36)), oD 3 38 7 (.load false 1 (.t 37)), oD 4 39 0 (.mov (.t 0)), oD 5 40 16 (.nilck (.t 39)), oD 6 41 48 (.faddr 1 (.t 40)), oD 7 42 112 (.load false 1 (.t 41)), oD 8 43 255 (.idxs (.t 38) (.t 42)), oD 9 44 511 (.call 155 [(.c (.str [43, 45, 42, 47, 37, 60, 62, 61, 33, 40, 41, 123, 125, 91, 93, 44, 59])), (.t 43)]), oD 10 45 1023 (.bin .lss (.t 44) (.c (.int .i64 0)))])
 (.cond (.t 45)
  (.regD [oD 0 46 0 (.mov (.t 0)), oD 1 47 0 (.load false 1 (.c (.ptr 3 0))), oD 2 48 0 (.mov (.t 0)), oD 3 49 4 (.nilck (.t 48)), oD 4 50 12 (.faddr 1 (.t 49)), oD 5 51 28 (.load false 1 (.t 50)), oD 6 52 63 (.call 72 [(.t 46), (.t 47), (.t 51)])])
  (.skip)))
 (.seq (.reg [oT 53 (.mov (.t 0)), oT 54 (.nilck (.t 53)), oT 55 (.faddr 1 (.t 54)), oT 56 (.load false 1 (.t 55)), oT 57 (.bin .add (.t 56) (.c (.int .i64 1))), oT 58 (.nilck (.t 53)), oT 59 (.faddr 1 (.t 58)), oN (.store 1 (.t 59) (.t 57))])
 (.seq (.regD [oD 0 60 0 (.mov (.t 0)), oD 1 61 1 (.nilck (.t 60)), oD 2 62 3 (.faddr 0 (.t 61)), oD 3 63 7 (.load false 1 (.t 62)), oD 4 64 0 (.mov (.t 0)), oD 5 65 16 (.nilck (.t 64)), oD 6 66 48 (.faddr 1 (.t 65)), oD 7 67 112 (.load false 1 (.t 66)), oD 8 68 240 (.bin .sub (.t 67) (.c (.int .i64 1))), oD 9 69 0 (.mov (.t 0)), oD 10 70 512 (.nilck (.t 69)), oD 11 71 1536 (.faddr 1 (.t 70)), oD 12 72 3584 (.load false 1 (.t 71)), oD 13 73 8191 (.sls (.t 63) (some (.t 68)) (some (.t 72))), oD 14 74 0 (.mov (.t 0)), oD 15 75 16384 (.nilck (.t 74)), oD 16 76 49152 (.faddr 1 (.t 75)), oD 17 77 114688 (.load false 1 (.t 76)), oD 18 78 245760 (.bin .sub (.t 77) (.c (.int .i64 1))), oD 19 79 524287 (.build [(.int .i64 0), (.str []), (.int .i64 0), (.int .u64 0), (.int .i64 0)] [(0, 1, (.c (.int .i64 5))), (1, 1, (.t 73)), (4, 1, (.t 78))]), oE 20 1048575 (.store 5 (.t 2) (.t 79))])
 (.ret)))))) [.cell 2 true 5]
/-- slices.Contains[[]string,string] -/
def m133 : MFun := .code 9 (
 .seq (.reg [oT 4 (.mov (.c (.bool false)))])
 (.seq (.reg [oT 5 (.mov (.t 0)), oT 6 (.mov (.t 1)), oT 7 (.call 134 [(.t 5), (.t 6)]), oT 8 (.bin .geq (.t 7) (.c (.int .i64 0))), oT 4 (.mov (.t 8))])
 (.ret))) [.t 4]
/-- slices.Index[[]string,string] -/
def m134 : MFun := .code 19 (
 .seq (.reg [oT 4 (.mov (.c (.int .i64 0)))])
 (.seq (.seq (.reg [oT 6 (.mov (.t 0)), oT 7 (.lenL (.t 6)), oT 8 (.mov (.c (.int .i64 0)))])
 (.block 0 (.loop (.seq (.reg [oT 9 (.bin .lss (.t 8) (.t 7))])
 (.seq (.cond (.t 9)
  (.skip)
  (.exit 0))
 (.seq (.block 1 (.seq (.reg [oT 10 (.mov (.t 8)), oT 5 (.mov (.t 10))])
 (.seq (.reg [oT 11 (.mov (.t 1)), oT 12 (.mov (.t 0)), oT 13 (.mov (.t 5)), oT 14 (.iaddr 1 (.t 12) (.t 13)), oT 15 (.load false 1 (.t 14)), oT 16 (.bin .eql (.t 11) (.t 15))])
 (.cond (.t 16)
  (.seq (.reg [oT 17 (.mov (.t 5)), oT 4 (.mov (.t 17))])
  (.ret))
  (.skip)))))
 (.reg [oT 18 (.bin .add (.t 8) (.c (.int .i64 1))), oT 8 (.mov (.t 18))])))))))
 (.seq (.reg [oT 4 (.mov (.c (.int .i64 (-1))))])
 (.ret)))) [.t 4]
/-- (*stockade/tree.parser).maybe -/
def m135 : MFun := .code 18 (
 .seq (.reg [oT 4 (.mov (.c (.bool false)))])
 (.seq (.seq (.reg [oT 5 (.mov (.t 0)), oT 6 (.mov (.t 1)), oT 7 (.bslice 1 [(.str [])] 1 [(0, 1, (.t 6))]), oT 8 (.call 86 [(.t 5), (.t 7)]), oT 9 (.un .not (.t 8))])
 (.cond (.t 9)
  (.seq (.reg [oT 4 (.mov (.c (.bool false)))])
  (.ret))
  (.skip)))
 (.seq (.reg [oT 10 (.mov (.t 0)), oT 11 (.mov (.t 0)), oT 12 (.nilck (.t 11)), oT 13 (.faddr 0 (.t 12)), oT 14 (.load false 1 (.t 13)), oT 15 (.slc 5 (.t 14) (some (.c (.int .i64 1))) none none), oT 16 (.nilck (.t 10)), oT 17 (.faddr 0 (.t 16)), oN (.store 1 (.t 17) (.t 15))])
 (.seq (.reg [oT 4 (.mov (.c (.bool true)))])
 (.ret))))) [.t 4]
/-- (*stockade/tree.parser).open -/
def m136 : MFun := .code 34 (
 .seq (.reg [oT 4 (.new .own [(.int .i64 0), (.str []), (.int .i64 0), (.int .u64 0), (.int .i64 0)])])
 (.seq (.seq (.reg [oT 5 (.mov (.t 0)), oT 6 (.mov (.t 1)), oT 7 (.bslice 1 [(.str [])] 1 [(0, 1, (.t 6))]), oT 8 (.call 86 [(.t 5), (.t 7)]), oT 9 (.un .not (.t 8))])
 (.cond (.t 9)
  (.reg [oT 10 (.mov (.t 0)), oT 11 (.call 85 [(.t 10)])])
  (.skip)))
 (.seq (.seq (.reg [oT 12 (.mov (.t 0)), oT 13 (.nilck (.t 12)), oT 14 (.faddr 2 (.t 13)), oT 15 (.load false 1 (.t 14)), oT 16 (.bin .eql (.t 15) (.c (.int .i64 16)))])
 (.cond (.t 16)
  (.regD [oD 0 17 0 (.load false 1 (.c (.ptr 4 0))), oD 1 18 0 (.mov (.t 0)), oD 2 19 2 (.call 48 [(.t 18)]), oD 3 20 6 (.fld false 4 1 (.t 19)), oD 4 21 15 (.build [.nilIface, (.int .i64 0)] [(0, 1, (.t 17)), (1, 1, (.t 20))]), oD 5 22 31 (.build [.nilIface, (.int .i64 0)] [(0, 2, (.t 21))]), oD 6 23 63 (.mkif 137 (.t 22)), oE 7 127 (.panic (.t 23))])
  (.skip)))
 (.seq (.reg [oT 24 (.mov (.t 0)), oT 25 (.nilck (.t 24)), oT 26 (.faddr 2 (.t 25)), oT 27 (.load false 1 (.t 26)), oT 28 (.bin .add (.t 27) (.c (.int .i64 1))), oT 29 (.nilck (.t 24)), oT 30 (.faddr 2 (.t 29)), oN (.store 1 (.t 30) (.t 28))])
 (.seq (.reg [oT 31 (.mov (.t 0)), oT 32 (.mov (.t 1)), oT 33 (.call 92 [(.t 31), (.t 32)]), oN (.store 5 (.t 4) (.t 33))])
 (.ret)))))) [.cell 4 true 5]
/-- (*stockade/tree.parser).stmt -/
def m137 : MFun := .code 56 (
 .seq (.reg [oT 2 (.new .own [(.int .i64 0), (.int .i64 0), (.str []), (.int .i64 0), (.int .i64 0), (.int .i64 0), (.int .i64 0), (.int .u64 0), .nilSlice])])
 (.seq (.reg [oT 7 (.mov (.t 0)), oT 8 (.call 48 [(.t 7)]), oT 9 (.fld false 4 1 (.t 8)), oT 3 (.mov (.t 9))])
 (.seq (.block 0 (.seq (.reg [oT 11 (.mov (.t 0)), oT 12 (.call 135 [(.t 11), (.c (.str [105, 102]))]), oT 10 (.mov (.t 12))])
 (.cond (.t 10)
  (.seq (.reg [oT 13 (.mov (.t 3)), oT 14 (.mov (.t 0)), oT 15 (.call 59 [(.t 14)]), oT 16 (.bslice 9 [(.int .i64 0), (.int .i64 0), (.str []), (.int .i64 0), (.int .i64 0), (.int .i64 0), (.int .i64 0), (.int .u64 0), .nilSlice] 1 [(0, 9, (.t 15))]), oT 17 (.build [(.int .i64 0), (.int .i64 0), (.str []), (.int .i64 0), (.int .i64 0), (.int .i64 0), (.int .i64 0), (.int .u64 0), .nilSlice] [(0, 1, (.c (.int .i64 21))), (1, 1, (.t 13)), (8, 1, (.t 16))]), oT 4 (.new .own [(.int .i64 0), (.int .i64 0), (.str []), (.int .i64 0), (.int .i64 0), (.int .i64 0), (.int .i64 0), (.int .u64 0), .nilSlice]), oN (.store 9 (.t 4) (.t 17))])
  (.seq (.regD [oD 0 18 0 (.faddr 8 (.t 4)), oD 1 19 1 (.load false 1 (.t 18)), oD 2 20 0 (.mov (.t 0)), oD 3 21 4 (.call 91 [(.t 20)]), oD 4 22 12 (.bslice 9 [(.int .i64 0), (.int .i64 0), (.str []), (.int .i64 0), (.int .i64 0), (.int .i64 0), (.int .i64 0), (.int .u64 0), .nilSlice] 1 [(0, 9, (.t 21))]), oD 5 23 31 (.append .own 9 96 (.t 19) (.t 22)), oD 6 24 63 (.faddr 8 (.t 4)), oE 7 127 (.store 1 (.t 24) (.t 23))])
  (.seq (.seq (.reg [oT 25 (.mov (.t 0)), oT 26 (.call 135 [(.t 25), (.c (.str [101, 108, 115, 101]))])])
  (.cond (.t 26)
   (.regD [oD 0 27 0 (.faddr 8 (.t 4)), oD 1 28 1 (.load false 1 (.t 27)), oD 2 29 0 (.mov (.t 0)), oD 3 30 4 (.call 91 [(.t 29)]), oD 4 31 12 (.bslice 9 [(.int .i64 0), (.int .i64 0), (.str []), (.int .i64 0), (.int .i64 0), (.int .i64 0), (.int .i64 0), (.int .u64 0), .nilSlice] 1 [(0, 9, (.t 30))]), oD 5 32 31 (.append .own 9 96 (.t 28) (.t 31)), oD 6 33 63 (.faddr 8 (.t 4)), oE 7 127 (.store 1 (.t 33) (.t 32))])
   (.skip)))
  (.seq (.reg [oT 34 (.load true 9 (.t 4)), oN (.store 9 (.t 2) (.t 34))])
  (.ret)))))
  (.seq (.reg [oT 36 (.mov (.t 0)), oT 37 (.call 135 [(.t 36), (.c (.str [119, 104, 105, 108, 101]))]), oT 35 (.mov (.t 37))])
  (.cond (.t 35)
   (.seq (.reg [oT 38 (.mov (.t 3)), oT 39 (.mov (.t 0)), oT 40 (.call 59 [(.t 39)]), oT 41 (.bslice 9 [(.int .i64 0), (.int .i64 0), (.str []), (.int .i64 0), (.int .i64 0), (.int .i64 0), (.int .i64 0), (.int .u64 0), .nilSlice] 1 [(0, 9, (.t 40))]), oT 42 (.build [(.int .i64 0), (.int .i64 0), (.str []), (.int .i64 0), (.int .i64 0), (.int .i64 0), (.int .i64 0), (.int .u64 0), .nilSlice] [(0, 1, (.c (.int .i64 22))), (1, 1, (.t 38)), (8, 1, (.t 41))]), oT 5 (.new .own [(.int .i64 0), (.int .i64 0), (.str []), (.int .i64 0), (.int .i64 0), (.int .i64 0), (.int .i64 0), (.int .u64 0), .nilSlice]), oN (.store 9 (.t 5) (.t 42))])
   (.seq (.regD [oD 0 43 0 (.faddr 8 (.t 5)), oD 1 44 1 (.load false 1 (.t 43)), oD 2 45 0 (.mov (.t 0)), oD 3 46 4 (.call 91 [(.t 45)]), oD 4 47 12 (.bslice 9 [(.int .i64 0), (.int .i64 0), (.str []), (.int .i64 0), (.int .i64 0), (.int .i64 0), (.int .i64 0), (.int .u64 0), .nilSlice] 1 [(0, 9, (.t 46))]), oD 5 48 31 (.append .own 9 96 (.t 44) (.t 47)), oD 6 49 63 (.faddr 8 (.t 5)), oE 7 127 (.store 1 (.t 49) (.t 48))])
   (.seq (.reg [oT 50 (.load true 9 (.t 5)), oN (.store 9 (.t 2) (.t 50))])
   (.ret))))
   (.skip))))))
 (.seq (.reg [oT 51 (.mov (.t 0)), oT 52 (.call 163 [(.t 51)]), oT 6 (.new .own [(.int .i64 0), (.int .i64 0), (.str []), (.int .i64 0), (.int .i64 0), (.int .i64 0), (.int .i64 0), (.int .u64 0), .nilSlice]), oN (.store 9 (.t 6) (.t 52))])
 (.seq (.reg [oT 53 (.mov (.t 0)), oT 54 (.call 92 [(.t 53), (.c (.str [59]))])])
 (.seq (.reg [oT 55 (.load true 9 (.t 6)), oN (.store 9 (.t 2) (.t 55))])
 (.ret))))))) [.cell 2 true 9]
/-- (*stockade/tree.parser).close -/
def m138 : MFun := .code 14 (
 .seq (.reg [oT 4 (.mov (.t 0)), oT 5 (.mov (.t 1)), oT 6 (.call 92 [(.t 4), (.t 5)])])
 (.reg [oT 7 (.mov (.t 0)), oT 8 (.nilck (.t 7)), oT 9 (.faddr 2 (.t 8)), oT 10 (.load false 1 (.t 9)), oT 11 (.bin .sub (.t 10) (.c (.int .i64 1))), oT 12 (.nilck (.t 7)), oT 13 (.faddr 2 (.t 12)), oN (.store 1 (.t 13) (.t 11))])) []
/-- (stockade/show.form).typ -/
def m139 : MFun := .code 12 (
 .seq (.reg [oT 2 (.box (.t 0))])
 (.reg [oT 4 (.load true 0 (.t 2)), oT 5 (.mov (.t 1)), oT 6 (.bin .geq (.t 5) (.c (.int .i64 1))), oT 7 (.mov (.t 6)), oG 8 7 (.mov (.t 1)), oG 9 7 (.bin .leq (.t 8) (.c (.int .i64 3))), oT 10 (.pick (.t 7) (.t 9) (.c (.bool false))), oT 11 (.call 94 [(.t 4), (.t 10)])])) []
/-- (stockade/show.form).block -/
def m140 : MFun := .code 26 (
 .seq (.reg [oT 2 (.box (.t 0)), oT 3 (.box (.t 1))])
 (.seq (.reg [oT 6 (.load true 0 (.t 2)), oT 7 (.faddr 0 (.t 3)), oT 8 (.load false 1 (.t 7)), oT 9 (.bin .eql (.t 8) (.c (.int .i64 9))), oT 10 (.call 94 [(.t 6), (.t 9)])])
 (.seq (.reg [oT 11 (.load true 0 (.t 2)), oT 12 (.load true 9 (.t 3)), oT 13 (.build [(.int .i64 0), (.int .i64 0), (.str []), (.int .i64 0), (.int .i64 0), (.int .i64 0), (.int .i64 0), (.int .u64 0), .nilSlice] []), oT 14 (.call 95 [(.t 11), (.t 12), (.t 13)])])
 (.seq (.reg [oT 15 (.faddr 8 (.t 3)), oT 16 (.load false 1 (.t 15)), oT 17 (.lenL (.t 16)), oT 18 (.mov (.c (.int .i64 0)))])
 (.block 0 (.loop (.seq (.reg [oT 19 (.bin .lss (.t 18) (.t 17))])
 (.seq (.cond (.t 19)
  (.skip)
  (.exit 0))
 (.seq (.block 1 (.seq (.reg [oT 20 (.iaddr 9 (.t 16) (.t 18)), oT 21 (.load true 9 (.t 20)), oT 5 (.new .own [(.int .i64 0), (.int .i64 0), (.str []), (.int .i64 0), (.int .i64 0), (.int .i64 0), (.int .i64 0), (.int .u64 0), .nilSlice]), oN (.store 9 (.t 5) (.t 21))])
 (.reg [oT 22 (.load true 0 (.t 2)), oT 23 (.load true 9 (.t 5)), oT 24 (.call 164 [(.t 22), (.t 23)])])))
 (.reg [oT 25 (.bin .add (.t 18) (.c (.int .i64 1))), oT 18 (.mov (.t 25))])))))))))) []
/-- internal/strconv.Itoa -/
def m141 : MFun := .code 5 (
 .seq (.reg [oT 2 (.mov (.c (.str [])))])
 (.seq (.reg [oT 3 (.mov (.t 0)), oT 4 (.call 165 [(.t 3), (.c (.int .i64 10))]), oT 2 (.mov (.t 4))])
 (.ret))) [.t 2]
/-- (*strings.Builder).WriteString -/
def m144 : MFun := .code 19 (
 .seq (.reg [oT 4 (.mov (.c (.int .i64 0))), oT 5 (.mov (.c .nilIface))])
 (.seq (.reg [oT 6 (.mov (.t 0)), oT 7 (.call 170 [(.t 6)])])
 (.seq (.reg [oT 8 (.mov (.t 0)), oT 9 (.mov (.t 0)), oT 10 (.nilck (.t 9)), oT 11 (.faddr 1 (.t 10)), oT 12 (.load false 1 (.t 11)), oT 13 (.mov (.t 1)), oT 14 (.append (.tag 5) 1 1 (.t 12) (.t 13)), oT 15 (.nilck (.t 8)), oT 16 (.faddr 1 (.t 15)), oN (.store 1 (.t 16) (.t 14))])
 (.seq (.reg [oT 17 (.mov (.t 1)), oT 18 (.lenS (.t 17)), oT 4 (.mov (.t 18)), oT 5 (.mov (.c .nilIface))])
 (.ret))))) [.t 4, .t 5]
/-- (*stockade/tree.parser).cmp -/
def m146 : MFun := .code 8 (
 .seq (.reg [oT 2 (.new .own [(.int .i64 0), (.int .i64 0), (.str []), (.int .i64 0), (.int .i64 0), (.int .i64 0), (.int .i64 0), (.int .u64 0), .nilSlice])])
 (.seq (.reg [oT 3 (.mov (.t 0)), oT 4 (.mov (.t 0)), oT 5 (.mkfn (.func 172) [(.t 4)] []), oT 6 (.bslice 1 [(.str []), (.str []), (.str []), (.str []), (.str []), (.str [])] 6 [(0, 1, (.c (.str [61, 61]))), (1, 1, (.c (.str [33, 61]))), (2, 1, (.c (.str [60]))), (3, 1, (.c (.str [60, 61]))), (4, 1, (.c (.str [62]))), (5, 1, (.c (.str [62, 61])))]), oT 7 (.call 104 [(.t 3), (.t 5), (.c (.bool false)), (.t 6)]), oN (.store 9 (.t 2) (.t 7))])
 (.ret))) [.cell 2 true 9]
/-- (*stockade/show.page).stmt -/
def m149 : MFun := .code 145 (
 .seq (.reg [oT 3 (.box (.t 1))])
 (.seq (.reg [oT 5 (.mkmap), oN (.mapupd (.one .int) (.t 5) (.c (.int .i64 14)) (.c (.str [108, 111, 99, 107]))), oN (.mapupd (.one .int) (.t 5) (.c (.int .i64 15)) (.c (.str [117, 110, 108, 111, 99, 107]))), oN (.mapupd (.one .int) (.t 5) (.c (.int .i64 16)) (.c (.str [115, 101, 110, 100]))), oN (.mapupd (.one .int) (.t 5) (.c (.int .i64 17)) (.c (.str [114, 101, 99, 118]))), oN (.mapupd (.one .int) (.t 5) (.c (.int .i64 18)) (.c (.str [97, 100, 100]))), oN (.mapupd (.one .int) (.t 5) (.c (.int .i64 19)) (.c (.str [112, 117, 116]))), oN (.mapupd (.one .int) (.t 5) (.c (.int .i64 20)) (.c (.str [103, 101, 116]))), oT 6 (.mov (.t 5)), oT 7 (.faddr 0 (.t 3)), oT 8 (.load false 1 (.t 7)), oT 9 (.lookup (.one .int) (.str []) (.t 6) (.t 8) false), oT 4 (.mov (.t 9))])
 (.seq (.reg [oT 10 (.faddr 0 (.t 3)), oT 11 (.load false 1 (.t 10))])
 (.block 0 (.seq (.reg [oT 24 (.bin .eql (.t 11) (.c (.int .i64 10))), oT 23 (.mov (.t 24))])
 (.cond (.t 23)
  (.regD [oD 0 25 0 (.mov (.t 0)), oD 1 26 0 (.faddr 8 (.t 3)), oD 2 27 2 (.load false 1 (.t 26)), oD 3 28 6 (.iaddr 9 (.t 27) (.c (.int .i64 0))), oD 4 29 14 (.load true 9 (.t 28)), oD 5 30 30 (.call 58 [(.t 29)]), oD 6 31 0 (.faddr 8 (.t 3)), oD 7 32 64 (.load false 1 (.t 31)), oD 8 33 192 (.iaddr 9 (.t 32) (.c (.int .i64 1))), oD 9 34 448 (.load true 9 (.t 33)), oD 10 35 1022 (.call 58 [(.t 34)]), oD 11 36 2046 (.bslice 1 [(.str []), (.str []), (.str []), (.str [])] 4 [(0, 1, (.t 30)), (1, 1, (.c (.str [32, 61, 32]))), (2, 1, (.t 35)), (3, 1, (.c (.str [59])))]), oD 12 37 4095 (.call 107 [(.t 25), (.t 36)])])
  (.seq (.reg [oT 39 (.bin .eql (.t 11) (.c (.int .i64 11))), oT 38 (.mov (.t 39))])
  (.cond (.t 38)
   (.regD [oD 0 40 0 (.mov (.t 0)), oD 1 41 0 (.faddr 2 (.t 3)), oD 2 42 2 (.load false 1 (.t 41)), oD 3 43 0 (.faddr 8 (.t 3)), oD 4 44 8 (.load false 1 (.t 43)), oD 5 45 24 (.iaddr 9 (.t 44) (.c (.int .i64 0))), oD 6 46 56 (.load true 9 (.t 45)), oD 7 47 120 (.call 58 [(.t 46)]), oD 8 48 254 (.bslice 1 [(.str []), (.str []), (.str []), (.str [])] 4 [(0, 1, (.t 42)), (1, 1, (.c (.str [32, 58, 61, 32]))), (2, 1, (.t 47)), (3, 1, (.c (.str [59])))]), oD 9 49 511 (.call 107 [(.t 40), (.t 48)])])
   (.seq (.reg [oT 51 (.bin .eql (.t 11) (.c (.int .i64 13))), oT 50 (.mov (.t 51))])
   (.cond (.t 50)
    (.regD [oD 0 52 0 (.mov (.t 0)), oD 1 53 0 (.faddr 2 (.t 3)), oD 2 54 2 (.load false 1 (.t 53)), oD 3 55 0 (.faddr 8 (.t 3)), oD 4 56 8 (.load false 1 (.t 55)), oD 5 57 24 (.call 173 [(.t 56)]), oD 6 58 62 (.bslice 1 [(.str []), (.str []), (.str []), (.str [])] 4 [(0, 1, (.t 54)), (1, 1, (.c (.str [40]))), (2, 1, (.t 57)), (3, 1, (.c (.str [41, 59])))]), oD 7 59 127 (.call 107 [(.t 52), (.t 58)])])
    (.seq (.reg [oT 61 (.bin .eql (.t 11) (.c (.int .i64 12))), oT 60 (.mov (.t 61))])
    (.cond (.t 60)
     (.regD [oD 0 62 0 (.mov (.t 0)), oD 1 63 0 (.faddr 2 (.t 3)), oD 2 64 2 (.load false 1 (.t 63)), oD 3 65 0 (.faddr 8 (.t 3)), oD 4 66 8 (.load false 1 (.t 65)), oD 5 67 24 (.call 173 [(.t 66)]), oD 6 68 62 (.bslice 1 [(.str []), (.str []), (.str []), (.str []), (.str [])] 5 [(0, 1, (.c (.str [103, 111, 32]))), (1, 1, (.t 64)), (2, 1, (.c (.str [40]))), (3, 1, (.t 67)), (4, 1, (.c (.str [41, 59])))]), oD 7 69 127 (.call 107 [(.t 62), (.t 68)])])
     (.seq (.reg [oT 71 (.bin .eql (.t 11) (.c (.int .i64 23))), oT 70 (.mov (.t 71))])
     (.cond (.t 70)
      (.reg [oT 72 (.mov (.t 0)), oT 73 (.bslice 1 [(.str [])] 1 [(0, 1, (.c (.str [114, 101, 116, 117, 114, 110, 59])))]), oT 74 (.call 107 [(.t 72), (.t 73)])])
      (.seq (.reg [oT 76 (.bin .eql (.t 11) (.c (.int .i64 24))), oT 75 (.mov (.t 76))])
      (.cond (.t 75)
       (.reg [oT 77 (.mov (.t 0)), oT 78 (.faddr 8 (.t 3)), oT 79 (.load false 1 (.t 78)), oT 80 (.iaddr 9 (.t 79) (.c (.int .i64 0))), oT 81 (.load true 9 (.t 80)), oT 82 (.call 58 [(.t 81)]), oT 83 (.bslice 1 [(.str []), (.str []), (.str [])] 3 [(0, 1, (.c (.str [102, 97, 105, 108, 32]))), (1, 1, (.t 82)), (2, 1, (.c (.str [59])))]), oT 84 (.call 107 [(.t 77), (.t 83)])])
       (.seq (.reg [oT 86 (.bin .eql (.t 11) (.c (.int .i64 22))), oT 85 (.mov (.t 86))])
       (.cond (.t 85)
        (.seq (.reg [oT 87 (.mov (.t 0)), oT 88 (.faddr 8 (.t 3)), oT 89 (.load false 1 (.t 88)), oT 90 (.iaddr 9 (.t 89) (.c (.int .i64 0))), oT 91 (.load true 9 (.t 90)), oT 92 (.call 58 [(.t 91)]), oT 93 (.bslice 1 [(.str []), (.str []), (.str [])] 3 [(0, 1, (.c (.str [119, 104, 105, 108, 101, 32]))), (1, 1, (.t 92)), (2, 1, (.c (.str [32, 123])))]), oT 94 (.call 107 [(.t 87), (.t 93)])])
        (.seq (.reg [oT 95 (.mov (.t 0)), oT 96 (.faddr 8 (.t 3)), oT 97 (.load false 1 (.t 96)), oT 98 (.iaddr 9 (.t 97) (.c (.int .i64 1))), oT 99 (.load true 9 (.t 98)), oT 100 (.call 110 [(.t 95), (.t 99)])])
        (.reg [oT 101 (.mov (.t 0)), oT 102 (.bslice 1 [(.str [])] 1 [(0, 1, (.c (.str [125])))]), oT 103 (.call 107 [(.t 101), (.t 102)])])))
        (.seq (.reg [oT 105 (.bin .eql (.t 11) (.c (.int .i64 21))), oT 104 (.mov (.t 105))])
        (.cond (.t 104)
         (.seq (.reg [oT 106 (.mov (.t 0)), oT 107 (.faddr 8 (.t 3)), oT 108 (.load false 1 (.t 107)), oT 109 (.iaddr 9 (.t 108) (.c (.int .i64 0))), oT 110 (.load true 9 (.t 109)), oT 111 (.call 58 [(.t 110)]), oT 112 (.bslice 1 [(.str []), (.str []), (.str [])] 3 [(0, 1, (.c (.str [105, 102, 32]))), (1, 1, (.t 111)), (2, 1, (.c (.str [32, 123])))]), oT 113 (.call 107 [(.t 106), (.t 112)])])
         (.seq (.reg [oT 114 (.mov (.t 0)), oT 115 (.faddr 8 (.t 3)), oT 116 (.load false 1 (.t 115)), oT 117 (.iaddr 9 (.t 116) (.c (.int .i64 1))), oT 118 (.load true 9 (.t 117)), oT 119 (.call 110 [(.t 114), (.t 118)])])
         (.seq (.seq (.reg [oT 120 (.faddr 8 (.t 3)), oT 121 (.load false 1 (.t 120)), oT 122 (.lenL (.t 121)), oT 123 (.bin .eql (.t 122) (.c (.int .i64 3)))])
         (.cond (.t 123)
          (.seq (.reg [oT 124 (.mov (.t 0)), oT 125 (.bslice 1 [(.str [])] 1 [(0, 1, (.c (.str [125, 32, 101, 108, 115, 101, 32, 123])))]), oT 126 (.call 107 [(.t 124), (.t 125)])])
          (.reg [oT 127 (.mov (.t 0)), oT 128 (.faddr 8 (.t 3)), oT 129 (.load false 1 (.t 128)), oT 130 (.iaddr 9 (.t 129) (.c (.int .i64 2))), oT 131 (.load true 9 (.t 130)), oT 132 (.call 110 [(.t 127), (.t 131)])]))
          (.skip)))
         (.reg [oT 133 (.mov (.t 0)), oT 134 (.bslice 1 [(.str [])] 1 [(0, 1, (.c (.str [125])))]), oT 135 (.call 107 [(.t 133), (.t 134)])]))))
         (.seq (.seq (.reg [oT 137 (.bin .eql (.t 11) (.c (.int .i64 14))), oT 136 (.mov (.t 137))])
         (.cond (.t 136)
          (.skip)
          (.reg [oT 138 (.bin .eql (.t 11) (.c (.int .i64 15))), oT 136 (.mov (.t 138))])))
         (.cond (.t 136)
          (.reg [oT 139 (.mov (.t 0)), oT 140 (.mov (.t 4)), oT 141 (.faddr 2 (.t 3)), oT 142 (.load false 1 (.t 141)), oT 143 (.bslice 1 [(.str []), (.str []), (.str []), (.str [])] 4 [(0, 1, (.t 140)), (1, 1, (.c (.str [32]))), (2, 1, (.t 142)), (3, 1, (.c (.str [59])))]), oT 144 (.call 107 [(.t 139), (.t 143)])])
          (.regD [oD 0 12 0 (.mov (.t 0)), oD 1 13 0 (.mov (.t 4)), oD 2 14 0 (.faddr 2 (.t 3)), oD 3 15 4 (.load false 1 (.t 14)), oD 4 16 0 (.faddr 8 (.t 3)), oD 5 17 16 (.load false 1 (.t 16)), oD 6 18 48 (.iaddr 9 (.t 17) (.c (.int .i64 0))), oD 7 19 112 (.load true 9 (.t 18)), oD 8 20 240 (.call 58 [(.t 19)]), oD 9 21 510 (.bslice 1 [(.str []), (.str []), (.str []), (.str []), (.str []), (.str [])] 6 [(0, 1, (.t 13)), (1, 1, (.c (.str [32]))), (2, 1, (.t 15)), (3, 1, (.c (.str [44, 32]))), (4, 1, (.t 20)), (5, 1, (.c (.str [59])))]), oD 10 22 1023 (.call 107 [(.t 12), (.t 21)])]))))))))))))))))))))))) []
/-- internal/stringslite.HasPrefix -/
def m151 : MFun := .code 18 (
 .seq (.reg [oT 4 (.mov (.c (.bool false)))])
 (.seq (.reg [oT 5 (.mov (.t 0)), oT 6 (.lenS (.t 5)), oT 7 (.mov (.t 1)), oT 8 (.lenS (.t 7)), oT 9 (.bin .geq (.t 6) (.t 8)), oT 10 (.mov (.t 9)), oG 11 10 (.mov (.t 0)), oG 12 10 (.mov (.t 1)), oG 13 10 (.lenS (.t 12)), oG 14 10 (.sls (.t 11) none (some (.t 13))), oG 15 10 (.mov (.t 1)), oG 16 10 (.bin .eql (.t 14) (.t 15)), oT 17 (.pick (.t 10) (.t 16) (.c (.bool false))), oT 4 (.mov (.t 17))])
 (.ret))) [.t 4]
/-- stockade/token.inWord -/
def m152 : MFun := .code 9 (
 .seq (.reg [oT 2 (.mov (.c (.bool false)))])
 (.seq (.reg [oT 3 (.mov (.t 0)), oT 4 (.call 117 [(.t 3)]), oT 5 (.mov (.t 4)), oH 6 5 (.mov (.t 0)), oH 7 5 (.call 119 [(.t 6)]), oT 8 (.pick (.t 5) (.c (.bool true)) (.t 7)), oT 2 (.mov (.t 8))])
 (.ret))) [.t 2]
/-- stockade/token.Key -/
def m153 : MFun := .code 6 (
 .seq (.reg [oT 2 (.mov (.c (.bool false)))])
 (.seq (.reg [oT 3 (.bslice 1 [(.str []), (.str []), (.str []), (.str []), (.str []), (.str []), (.str []), (.str []), (.str []), (.str []), (.str []), (.str []), (.str []), (.str []), (.str []), (.str []), (.str []), (.str []), (.str []), (.str []), (.str []), (.str []), (.str [])] 23 [(0, 1, (.c (.str [97, 100, 100]))), (1, 1, (.c (.str [97, 116, 111, 109, 105, 99]))), (2, 1, (.c (.str [98, 111, 111, 108]))), (3, 1, (.c (.str [99, 104, 97, 110]))), (4, 1, (.c (.str [101, 108, 115, 101]))), (5, 1, (.c (.str [102, 97, 105, 108]))), (6, 1, (.c (.str [102, 97, 108, 115, 101]))), (7, 1, (.c (.str [102, 108, 111, 97, 116]))), (8, 1, (.c (.str [102, 117, 110, 99]))), (9, 1, (.c (.str [103, 101, 116]))), (10, 1, (.c (.str [103, 111]))), (11, 1, (.c (.str [105, 102]))), (12, 1, (.c (.str [105, 110, 116]))), (13, 1, (.c (.str [108, 111, 99, 107]))), (14, 1, (.c (.str [109, 117, 116, 101, 120]))), (15, 1, (.c (.str [112, 117, 116]))), (16, 1, (.c (.str [114, 101, 99, 118]))), (17, 1, (.c (.str [114, 101, 116, 117, 114, 110]))), (18, 1, (.c (.str [115, 101, 110, 100]))), (19, 1, (.c (.str [116, 114, 117, 101]))), (20, 1, (.c (.str [117, 110, 108, 111, 99, 107]))), (21, 1, (.c (.str [118, 97, 114]))), (22, 1, (.c (.str [119, 104, 105, 108, 101])))]), oT 4 (.mov (.t 0)), oT 5 (.call 133 [(.t 3), (.t 4)]), oT 2 (.mov (.t 5))])
 (.ret))) [.t 2]
/-- (*stockade/token.reader).alone -/
def m154 : MFun := .code 11 (
 .seq (.reg [oT 2 (.mov (.t 0)), oT 3 (.call 116 [(.t 2), (.c (.func (.func 152) [] []))])])
 (.cond (.t 3)
  (.regD [oD 0 4 0 (.mov (.t 0)), oD 1 5 0 (.load false 1 (.c (.ptr 3 0))), oD 2 6 0 (.mov (.t 0)), oD 3 7 4 (.nilck (.t 6)), oD 4 8 12 (.faddr 1 (.t 7)), oD 5 9 28 (.load false 1 (.t 8)), oD 6 10 63 (.call 72 [(.t 4), (.t 5), (.t 9)])])
  (.skip))) []
/-- strings.IndexByte -/
def m155 : MFun := .code 8 (
 .seq (.reg [oT 4 (.mov (.c (.int .i64 0)))])
 (.seq (.reg [oT 5 (.mov (.t 0)), oT 6 (.mov (.t 1)), oT 7 (.call 174 [(.t 5), (.t 6)]), oT 4 (.mov (.t 7))])
 (.ret))) [.t 4]
/-- (*stockade/tree.parser).simple -/
def m163 : MFun := .code 76 (
 .seq (.reg [oT 2 (.new .own [(.int .i64 0), (.int .i64 0), (.str []), (.int .i64 0), (.int .i64 0), (.int .i64 0), (.int .i64 0), (.int .u64 0), .nilSlice])])
 (.seq (.reg [oT 5 (.mov (.t 0)), oT 6 (.call 48 [(.t 5)]), oT 3 (.new .own [(.int .i64 0), (.str []), (.int .i64 0), (.int .u64 0), (.int .i64 0)]), oN (.store 5 (.t 3) (.t 6))])
 (.seq (.seq (.reg [oT 7 (.faddr 0 (.t 3)), oT 8 (.load false 1 (.t 7)), oT 9 (.bin .eql (.t 8) (.c (.int .i64 1)))])
 (.cond (.t 9)
  (.seq (.reg [oT 10 (.mov (.t 0)), oT 11 (.call 176 [(.t 10)]), oN (.store 9 (.t 2) (.t 11))])
  (.ret))
  (.skip)))
 (.seq (.seq (.reg [oT 12 (.faddr 0 (.t 3)), oT 13 (.load false 1 (.t 12)), oT 14 (.bin .neq (.t 13) (.c (.int .i64 2)))])
 (.cond (.t 14)
  (.reg [oT 15 (.mov (.t 0)), oT 16 (.call 85 [(.t 15)])])
  (.skip)))
 (.seq (.seq (.reg [oT 17 (.faddr 1 (.t 3)), oT 18 (.load false 1 (.t 17))])
 (.block 0 (.seq (.reg [oT 20 (.bin .eql (.t 18) (.c (.str [103, 111]))), oT 19 (.mov (.t 20))])
 (.cond (.t 19)
  (.seq (.reg [oT 21 (.mov (.t 0)), oT 22 (.call 92 [(.t 21), (.c (.str [103, 111]))])])
  (.seq (.regD [oD 6 4 0 (.new .own [(.int .i64 0), (.int .i64 0), (.str []), (.int .i64 0), (.int .i64 0), (.int .i64 0), (.int .i64 0), (.int .u64 0), .nilSlice]), oD 0 23 0 (.faddr 4 (.t 3)), oD 1 24 1 (.load false 1 (.t 23)), oD 2 25 0 (.mov (.t 0)), oD 3 26 4 (.call 87 [(.t 25), (.c (.int .i64 1))]), oD 4 27 12 (.fld false 1 1 (.t 26)), oD 5 28 31 (.build [(.int .i64 0), (.int .i64 0), (.str []), (.int .i64 0), (.int .i64 0), (.int .i64 0), (.int .i64 0), (.int .u64 0), .nilSlice] [(0, 1, (.c (.int .i64 12))), (1, 1, (.t 24)), (2, 1, (.t 27))]), oE 7 127 (.store 9 (.t 4) (.t 28))])
  (.seq (.reg [oT 29 (.mov (.t 0)), oT 30 (.call 177 [(.t 29)]), oT 31 (.faddr 8 (.t 4)), oN (.store 1 (.t 31) (.t 30))])
  (.seq (.reg [oT 32 (.load true 9 (.t 4)), oN (.store 9 (.t 2) (.t 32))])
  (.ret)))))
  (.seq (.reg [oT 34 (.bin .eql (.t 18) (.c (.str [108, 111, 99, 107]))), oT 33 (.mov (.t 34))])
  (.cond (.t 33)
   (.seq (.reg [oT 35 (.mov (.t 0)), oT 36 (.call 178 [(.t 35), (.c (.int .i64 14)), (.c (.int .i64 0))]), oN (.store 9 (.t 2) (.t 36))])
   (.ret))
   (.seq (.reg [oT 38 (.bin .eql (.t 18) (.c (.str [117, 110, 108, 111, 99, 107]))), oT 37 (.mov (.t 38))])
   (.cond (.t 37)
    (.seq (.reg [oT 39 (.mov (.t 0)), oT 40 (.call 178 [(.t 39), (.c (.int .i64 15)), (.c (.int .i64 0))]), oN (.store 9 (.t 2) (.t 40))])
    (.ret))
    (.seq (.reg [oT 42 (.bin .eql (.t 18) (.c (.str [115, 101, 110, 100]))), oT 41 (.mov (.t 42))])
    (.cond (.t 41)
     (.seq (.reg [oT 43 (.mov (.t 0)), oT 44 (.call 178 [(.t 43), (.c (.int .i64 16)), (.c (.int .i64 1))]), oN (.store 9 (.t 2) (.t 44))])
     (.ret))
     (.seq (.reg [oT 46 (.bin .eql (.t 18) (.c (.str [114, 101, 99, 118]))), oT 45 (.mov (.t 46))])
     (.cond (.t 45)
      (.seq (.reg [oT 47 (.mov (.t 0)), oT 48 (.call 178 [(.t 47), (.c (.int .i64 17)), (.c (.int .i64 2))]), oN (.store 9 (.t 2) (.t 48))])
      (.ret))
      (.seq (.reg [oT 50 (.bin .eql (.t 18) (.c (.str [97, 100, 100]))), oT 49 (.mov (.t 50))])
      (.cond (.t 49)
       (.seq (.reg [oT 51 (.mov (.t 0)), oT 52 (.call 178 [(.t 51), (.c (.int .i64 18)), (.c (.int .i64 1))]), oN (.store 9 (.t 2) (.t 52))])
       (.ret))
       (.seq (.reg [oT 54 (.bin .eql (.t 18) (.c (.str [112, 117, 116]))), oT 53 (.mov (.t 54))])
       (.cond (.t 53)
        (.seq (.reg [oT 55 (.mov (.t 0)), oT 56 (.call 178 [(.t 55), (.c (.int .i64 19)), (.c (.int .i64 1))]), oN (.store 9 (.t 2) (.t 56))])
        (.ret))
        (.seq (.reg [oT 58 (.bin .eql (.t 18) (.c (.str [103, 101, 116]))), oT 57 (.mov (.t 58))])
        (.cond (.t 57)
         (.seq (.reg [oT 59 (.mov (.t 0)), oT 60 (.call 178 [(.t 59), (.c (.int .i64 20)), (.c (.int .i64 2))]), oN (.store 9 (.t 2) (.t 60))])
         (.ret))
         (.seq (.reg [oT 62 (.bin .eql (.t 18) (.c (.str [114, 101, 116, 117, 114, 110]))), oT 61 (.mov (.t 62))])
         (.cond (.t 61)
          (.seq (.reg [oT 63 (.mov (.t 0)), oT 64 (.call 92 [(.t 63), (.c (.str [114, 101, 116, 117, 114, 110]))])])
          (.seq (.reg [oT 65 (.faddr 4 (.t 3)), oT 66 (.load false 1 (.t 65)), oT 67 (.build [(.int .i64 0), (.int .i64 0), (.str []), (.int .i64 0), (.int .i64 0), (.int .i64 0), (.int .i64 0), (.int .u64 0), .nilSlice] [(0, 1, (.c (.int .i64 23))), (1, 1, (.t 66))]), oN (.store 9 (.t 2) (.t 67))])
          (.ret)))
          (.skip)))))))))))))))))))))
 (.seq (.reg [oT 68 (.mov (.t 0)), oT 69 (.call 92 [(.t 68), (.c (.str [102, 97, 105, 108]))])])
 (.seq (.regD [oD 0 70 0 (.faddr 4 (.t 3)), oD 1 71 1 (.load false 1 (.t 70)), oD 2 72 0 (.mov (.t 0)), oD 3 73 4 (.call 59 [(.t 72)]), oD 4 74 12 (.bslice 9 [(.int .i64 0), (.int .i64 0), (.str []), (.int .i64 0), (.int .i64 0), (.int .i64 0), (.int .i64 0), (.int .u64 0), .nilSlice] 1 [(0, 9, (.t 73))]), oD 5 75 31 (.build [(.int .i64 0), (.int .i64 0), (.str []), (.int .i64 0), (.int .i64 0), (.int .i64 0), (.int .i64 0), (.int .u64 0), .nilSlice] [(0, 1, (.c (.int .i64 24))), (1, 1, (.t 71)), (8, 1, (.t 74))]), oE 6 63 (.store 9 (.t 2) (.t 75))])
 (.ret)))))))) [.cell 2 true 9]
/-- (stockade/show.form).stmt -/
def m164 : MFun := .code 111 (
 .seq (.reg [oT 2 (.box (.t 0)), oT 3 (.box (.t 1))])
 (.seq (.reg [oT 4 (.mov (.c (.int .i64 1)))])
 (.seq (.seq (.reg [oT 8 (.faddr 0 (.t 3)), oT 9 (.load false 1 (.t 8))])
 (.block 0 (.seq (.seq (.reg [oT 13 (.bin .eql (.t 9) (.c (.int .i64 10))), oT 12 (.mov (.t 13))])
 (.cond (.t 12)
  (.skip)
  (.reg [oT 14 (.bin .eql (.t 9) (.c (.int .i64 22))), oT 12 (.mov (.t 14))])))
 (.cond (.t 12)
  (.reg [oT 4 (.mov (.c (.int .i64 2)))])
  (.seq (.reg [oT 16 (.bin .eql (.t 9) (.c (.int .i64 21))), oT 15 (.mov (.t 16))])
  (.cond (.t 15)
   (.seq (.reg [oT 4 (.mov (.c (.int .i64 2)))])
   (.seq (.reg [oT 17 (.faddr 8 (.t 3)), oT 18 (.load false 1 (.t 17)), oT 19 (.lenL (.t 18)), oT 20 (.bin .eql (.t 19) (.c (.int .i64 3)))])
   (.cond (.t 20)
    (.reg [oT 4 (.mov (.c (.int .i64 3)))])
    (.skip))))
   (.seq (.seq (.reg [oT 22 (.bin .eql (.t 9) (.c (.int .i64 14))), oT 21 (.mov (.t 22))])
   (.cond (.t 21)
    (.skip)
    (.seq (.reg [oT 23 (.bin .eql (.t 9) (.c (.int .i64 15))), oT 21 (.mov (.t 23))])
    (.cond (.t 21)
     (.skip)
     (.reg [oT 24 (.bin .eql (.t 9) (.c (.int .i64 23))), oT 21 (.mov (.t 24))])))))
   (.cond (.t 21)
    (.reg [oT 4 (.mov (.c (.int .i64 0)))])
    (.seq (.seq (.reg [oT 26 (.bin .eql (.t 9) (.c (.int .i64 12))), oT 25 (.mov (.t 26))])
    (.cond (.t 25)
     (.skip)
     (.reg [oT 27 (.bin .eql (.t 9) (.c (.int .i64 13))), oT 25 (.mov (.t 27))])))
    (.cond (.t 25)
     (.reg [oT 28 (.faddr 8 (.t 3)), oT 29 (.load false 1 (.t 28)), oT 30 (.lenL (.t 29)), oT 4 (.mov (.t 30))])
     (.seq (.seq (.reg [oT 32 (.bin .eql (.t 9) (.c (.int .i64 11))), oT 31 (.mov (.t 32))])
     (.cond (.t 31)
      (.skip)
      (.seq (.reg [oT 33 (.bin .eql (.t 9) (.c (.int .i64 16))), oT 31 (.mov (.t 33))])
      (.cond (.t 31)
       (.skip)
       (.seq (.reg [oT 34 (.bin .eql (.t 9) (.c (.int .i64 17))), oT 31 (.mov (.t 34))])
       (.cond (.t 31)
        (.skip)
        (.seq (.reg [oT 35 (.bin .eql (.t 9) (.c (.int .i64 18))), oT 31 (.mov (.t 35))])
        (.cond (.t 31)
         (.skip)
         (.seq (.reg [oT 36 (.bin .eql (.t 9) (.c (.int .i64 19))), oT 31 (.mov (.t 36))])
         (.cond (.t 31)
          (.skip)
          (.seq (.reg [oT 37 (.bin .eql (.t 9) (.c (.int .i64 20))), oT 31 (.mov (.t 37))])
          (.cond (.t 31)
           (.skip)
           (.reg [oT 38 (.bin .eql (.t 9) (.c (.int .i64 24))), oT 31 (.mov (.t 38))])))))))))))))
     (.cond (.t 31)
      (.skip)
      (.reg [oT 10 (.load true 0 (.t 2)), oT 11 (.call 94 [(.t 10), (.c (.bool false))])])))))))))))))
 (.seq (.reg [oT 39 (.load true 0 (.t 2)), oT 40 (.faddr 8 (.t 3)), oT 41 (.load false 1 (.t 40)), oT 42 (.lenL (.t 41)), oT 43 (.mov (.t 4)), oT 44 (.bin .eql (.t 42) (.t 43)), oT 45 (.call 94 [(.t 39), (.t 44)])])
 (.seq (.reg [oT 46 (.build [(.int .i64 0), (.int .i64 0), (.str []), (.int .i64 0), (.int .i64 0), (.int .i64 0), (.int .i64 0), (.int .u64 0), .nilSlice] []), oT 5 (.new .own [(.int .i64 0), (.int .i64 0), (.str []), (.int .i64 0), (.int .i64 0), (.int .i64 0), (.int .i64 0), (.int .u64 0), .nilSlice]), oN (.store 9 (.t 5) (.t 46))])
 (.seq (.seq (.reg [oT 47 (.faddr 0 (.t 3)), oT 48 (.load false 1 (.t 47))])
 (.block 1 (.seq (.seq (.reg [oT 57 (.bin .eql (.t 48) (.c (.int .i64 10))), oT 56 (.mov (.t 57))])
 (.cond (.t 56)
  (.skip)
  (.seq (.reg [oT 58 (.bin .eql (.t 48) (.c (.int .i64 21))), oT 56 (.mov (.t 58))])
  (.cond (.t 56)
   (.skip)
   (.seq (.reg [oT 59 (.bin .eql (.t 48) (.c (.int .i64 22))), oT 56 (.mov (.t 59))])
   (.cond (.t 56)
    (.skip)
    (.seq (.reg [oT 60 (.bin .eql (.t 48) (.c (.int .i64 23))), oT 56 (.mov (.t 60))])
    (.cond (.t 56)
     (.skip)
     (.reg [oT 61 (.bin .eql (.t 48) (.c (.int .i64 24))), oT 56 (.mov (.t 61))])))))))))
 (.cond (.t 56)
  (.skip)
  (.seq (.reg [oT 49 (.load true 0 (.t 2)), oT 50 (.faddr 2 (.t 3)), oT 51 (.load false 1 (.t 50)), oT 52 (.call 97 [(.t 49), (.t 51)])])
  (.reg [oT 53 (.faddr 2 (.t 3)), oT 54 (.load false 1 (.t 53)), oT 55 (.faddr 2 (.t 5)), oN (.store 1 (.t 55) (.t 54))]))))))
 (.seq (.reg [oT 62 (.load true 0 (.t 2)), oT 63 (.load true 9 (.t 3)), oT 64 (.load true 9 (.t 5)), oT 65 (.call 95 [(.t 62), (.t 63), (.t 64)])])
 (.seq (.reg [oT 66 (.faddr 8 (.t 3)), oT 67 (.load false 1 (.t 66)), oT 68 (.lenL (.t 67)), oT 69 (.mov (.c (.int .i64 0)))])
 (.block 2 (.loop (.seq (.reg [oT 70 (.bin .lss (.t 69) (.t 68))])
 (.seq (.cond (.t 70)
  (.skip)
  (.exit 2))
 (.seq (.block 3 (.seq (.reg [oT 71 (.mov (.t 69)), oT 72 (.iaddr 9 (.t 67) (.t 69)), oT 73 (.load true 9 (.t 72)), oT 7 (.new .own [(.int .i64 0), (.int .i64 0), (.str []), (.int .i64 0), (.int .i64 0), (.int .i64 0), (.int .i64 0), (.int .u64 0), .nilSlice]), oT 6 (.mov (.t 71)), oN (.store 9 (.t 7) (.t 73))])
 (.block 4 (.seq (.seq (.reg [oT 78 (.faddr 0 (.t 3)), oT 79 (.load false 1 (.t 78)), oT 80 (.bin .eql (.t 79) (.c (.int .i64 17))), oT 77 (.mov (.t 80))])
 (.cond (.t 77)
  (.skip)
  (.seq (.reg [oT 81 (.faddr 0 (.t 3)), oT 82 (.load false 1 (.t 81)), oT 83 (.bin .eql (.t 82) (.c (.int .i64 20))), oT 77 (.mov (.t 83))])
  (.cond (.t 77)
   (.skip)
   (.reg [oT 84 (.faddr 0 (.t 3)), oT 85 (.load false 1 (.t 84)), oT 86 (.bin .eql (.t 85) (.c (.int .i64 10))), oT 87 (.mov (.t 86)), oG 88 87 (.mov (.t 6)), oG 89 87 (.bin .eql (.t 88) (.c (.int .i64 0))), oT 90 (.pick (.t 87) (.t 89) (.c (.bool false))), oT 77 (.mov (.t 90))])))))
 (.cond (.t 77)
  (.reg [oT 91 (.load true 0 (.t 2)), oT 92 (.load true 9 (.t 7)), oT 93 (.call 179 [(.t 91), (.t 92)])])
  (.seq (.reg [oT 95 (.mov (.t 6)), oT 96 (.bin .gtr (.t 95) (.c (.int .i64 0))), oT 97 (.mov (.t 96)), oG 98 97 (.faddr 0 (.t 3)), oG 99 97 (.load false 1 (.t 98)), oG 100 97 (.bin .eql (.t 99) (.c (.int .i64 21))), oG 101 97 (.mov (.t 100)), oH 102 101 (.faddr 0 (.t 3)), oH 103 101 (.load false 1 (.t 102)), oH 104 101 (.bin .eql (.t 103) (.c (.int .i64 22))), oG 105 97 (.pick (.t 101) (.c (.bool true)) (.t 104)), oT 106 (.pick (.t 97) (.t 105) (.c (.bool false))), oT 94 (.mov (.t 106))])
  (.cond (.t 94)
   (.reg [oT 107 (.load true 0 (.t 2)), oT 108 (.load true 9 (.t 7)), oT 109 (.call 140 [(.t 107), (.t 108)])])
   (.reg [oT 74 (.load true 0 (.t 2)), oT 75 (.load true 9 (.t 7)), oT 76 (.call 57 [(.t 74), (.t 75)])]))))))))
 (.reg [oT 110 (.bin .add (.t 69) (.c (.int .i64 1))), oT 69 (.mov (.t 110))])))))))))))))) []
/-- internal/strconv.FormatInt -/
def m165 : MFun := .code 54 (
 .seq (.reg [oT 4 (.mov (.c (.str [])))])
 (.seq (.seq (.reg [oT 10 (.mov (.t 1)), oT 11 (.bin .eql (.t 10) (.c (.int .i64 10)))])
 (.cond (.t 11)
  (.seq (.seq (.reg [oT 12 (.mov (.t 0)), oT 13 (.bin .leq (.c (.int .i64 0)) (.t 12)), oT 14 (.mov (.t 13)), oG 15 14 (.mov (.t 0)), oG 16 14 (.bin .lss (.t 15) (.c (.int .i64 100))), oT 17 (.pick (.t 14) (.t 16) (.c (.bool false)))])
  (.cond (.t 17)
   (.seq (.reg [oT 18 (.mov (.t 0)), oT 19 (.call 166 [(.t 18)]), oT 4 (.mov (.t 19))])
   (.ret))
   (.skip)))
  (.seq (.reg [oT 5 (.new .own [(.int .u8 0), (.int .u8 0), (.int .u8 0), (.int .u8 0), (.int .u8 0), (.int .u8 0), (.int .u8 0), (.int .u8 0), (.int .u8 0), (.int .u8 0), (.int .u8 0), (.int .u8 0), (.int .u8 0), (.int .u8 0), (.int .u8 0), (.int .u8 0), (.int .u8 0), (.int .u8 0), (.int .u8 0), (.int .u8 0), (.int .u8 0), (.int .u8 0), (.int .u8 0), (.int .u8 0)])])
  (.seq (.reg [oT 20 (.mov (.t 0)), oT 21 (.cvi .u64 (.t 20)), oT 6 (.mov (.t 21))])
  (.seq (.seq (.reg [oT 22 (.mov (.t 0)), oT 23 (.bin .lss (.t 22) (.c (.int .i64 0)))])
  (.cond (.t 23)
   (.reg [oT 24 (.mov (.t 6)), oT 25 (.un .neg (.t 24)), oT 6 (.mov (.t 25))])
   (.skip)))
  (.seq (.reg [oT 26 (.mov (.t 6)), oT 27 (.call 167 [(.t 26)]), oT 7 (.mov (.t 27))])
  (.seq (.reg [oT 28 (.mov (.t 7)), oT 29 (.bin .add (.c (.int .i64 1)) (.t 28)), oT 30 (.slarr 24 1 (.t 5) (some (.c (.int .i64 1))) (some (.t 29)) none), oT 31 (.mov (.t 6)), oT 32 (.call 168 [(.t 30), (.t 31)])])
  (.seq (.seq (.reg [oT 33 (.mov (.t 0)), oT 34 (.bin .lss (.t 33) (.c (.int .i64 0)))])
  (.cond (.t 34)
   (.seq (.reg [oT 35 (.iarr 24 1 (.t 5) (.c (.int .i64 0))), oN (.store 1 (.t 35) (.c (.int .u8 45)))])
   (.seq (.reg [oT 36 (.mov (.t 7)), oT 37 (.bin .add (.c (.int .i64 1)) (.t 36)), oT 38 (.slarr 24 1 (.t 5) none (some (.t 37)) none), oT 39 (.cvbs (.t 38)), oT 4 (.mov (.t 39))])
   (.ret)))
   (.skip)))
  (.seq (.reg [oT 40 (.mov (.t 7)), oT 41 (.bin .add (.c (.int .i64 1)) (.t 40)), oT 42 (.slarr 24 1 (.t 5) (some (.c (.int .i64 1))) (some (.t 41)) none), oT 43 (.cvbs (.t 42)), oT 4 (.mov (.t 43))])
  (.ret)))))))))
  (.skip)))
 (.seq (.reg [oT 45 (.mov (.t 0)), oT 46 (.cvi .u64 (.t 45)), oT 47 (.mov (.t 1)), oT 48 (.mov (.t 0)), oT 49 (.bin .lss (.t 48) (.c (.int .i64 0))), oT 50 (.call 169 [(.c .nilSlice), (.t 46), (.t 47), (.t 49), (.c (.bool false))]), oT 44 (.mov (.t 50)), oT 51 (.ext (.t 44) 0), oT 52 (.ext (.t 44) 1), oT 8 (.mov (.t 51)), oT 9 (.mov (.t 52))])
 (.seq (.reg [oT 53 (.mov (.t 9)), oT 4 (.mov (.t 53))])
 (.ret))))) [.t 4]
/-- internal/strconv.small -/
def m166 : MFun := .code 15 (
 .seq (.reg [oT 2 (.mov (.c (.str [])))])
 (.seq (.seq (.reg [oT 3 (.mov (.t 0)), oT 4 (.bin .lss (.t 3) (.c (.int .i64 10)))])
 (.cond (.t 4)
  (.seq (.reg [oT 5 (.mov (.t 0)), oT 6 (.mov (.t 0)), oT 7 (.bin .add (.t 6) (.c (.int .i64 1))), oT 8 (.sls (.c (.str [48, 49, 50, 51, 52, 53, 54, 55, 56, 57, 97, 98, 99, 100, 101, 102, 103, 104, 105, 106, 107, 108, 109, 110, 111, 112, 113, 114, 115, 116, 117, 118, 119, 120, 121, 122])) (some (.t 5)) (some (.t 7))), oT 2 (.mov (.t 8))])
  (.ret))
  (.skip)))
 (.seq (.reg [oT 9 (.mov (.t 0)), oT 10 (.bin .mul (.t 9) (.c (.int .i64 2))), oT 11 (.mov (.t 0)), oT 12 (.bin .mul (.t 11) (.c (.int .i64 2))), oT 13 (.bin .add (.t 12) (.c (.int .i64 2))), oT 14 (.sls (.c (.str [48, 48, 48, 49, 48, 50, 48, 51, 48, 52, 48, 53, 48, 54, 48, 55, 48, 56, 48, 57, 49, 48, 49, 49, 49, 50, 49, 51, 49, 52, 49, 53, 49, 54, 49, 55, 49, 56, 49, 57, 50, 48, 50, 49, 50, 50, 50, 51, 50, 52, 50, 53, 50, 54, 50, 55, 50, 56, 50, 57, 51, 48, 51, 49, 51, 50, 51, 51, 51, 52, 51, 53, 51, 54, 51, 55, 51, 56, 51, 57, 52, 48, 52, 49, 52, 50, 52, 51, 52, 52, 52, 53, 52, 54, 52, 55, 52, 56, 52, 57, 53, 48, 53, 49, 53, 50, 53, 51, 53, 52, 53, 53, 53, 54, 53, 55, 53, 56, 53, 57, 54, 48, 54, 49, 54, 50, 54, 51, 54, 52, 54, 53, 54, 54, 54, 55, 54, 56, 54, 57, 55, 48, 55, 49, 55, 50, 55, 51, 55, 52, 55, 53, 55, 54, 55, 55, 55, 56, 55, 57, 56, 48, 56, 49, 56, 50, 56, 51, 56, 52, 56, 53, 56, 54, 56, 55, 56, 56, 56, 57, 57, 48, 57, 49, 57, 50, 57, 51, 57, 52, 57, 53, 57, 54, 57, 55, 57, 56, 57, 57])) (some (.t 10)) (some (.t 13))), oT 2 (.mov (.t 14))])
 (.ret)))) [.t 2]
/-- (*stockade/tree.parser).sum -/
def m172 : MFun := .code 8 (
 .seq (.reg [oT 2 (.new .own [(.int .i64 0), (.int .i64 0), (.str []), (.int .i64 0), (.int .i64 0), (.int .i64 0), (.int .i64 0), (.int .u64 0), .nilSlice])])
 (.seq (.reg [oT 3 (.mov (.t 0)), oT 4 (.mov (.t 0)), oT 5 (.mkfn (.func 187) [(.t 4)] []), oT 6 (.bslice 1 [(.str []), (.str [])] 2 [(0, 1, (.c (.str [43]))), (1, 1, (.c (.str [45])))]), oT 7 (.call 104 [(.t 3), (.t 5), (.c (.bool true)), (.t 6)]), oN (.store 9 (.t 2) (.t 7))])
 (.ret))) [.cell 2 true 9]
/-- stockade/show.all -/
def m173 : MFun := .code 20 (
 .seq (.reg [oT 2 (.mov (.c (.str [])))])
 (.seq (.reg [oT 3 (.mov (.c .nilSlice))])
 (.seq (.seq (.reg [oT 6 (.mov (.t 0)), oT 7 (.lenL (.t 6)), oT 8 (.mov (.c (.int .i64 0)))])
 (.block 0 (.loop (.seq (.reg [oT 9 (.bin .lss (.t 8) (.t 7))])
 (.seq (.cond (.t 9)
  (.skip)
  (.exit 0))
 (.seq (.block 1 (.seq (.reg [oT 10 (.iaddr 9 (.t 6) (.t 8)), oT 11 (.load true 9 (.t 10)), oT 5 (.new .own [(.int .i64 0), (.int .i64 0), (.str []), (.int .i64 0), (.int .i64 0), (.int .i64 0), (.int .i64 0), (.int .u64 0), .nilSlice]), oN (.store 9 (.t 5) (.t 11))])
 (.reg [oT 12 (.mov (.t 3)), oT 13 (.load true 9 (.t 5)), oT 14 (.call 58 [(.t 13)]), oT 15 (.bslice 1 [(.str [])] 1 [(0, 1, (.t 14))]), oT 16 (.append .own 1 16 (.t 12) (.t 15)), oT 3 (.mov (.t 16))])))
 (.reg [oT 17 (.bin .add (.t 8) (.c (.int .i64 1))), oT 8 (.mov (.t 17))])))))))
 (.seq (.reg [oT 18 (.mov (.t 3)), oT 19 (.call 109 [(.t 18), (.c (.str [44, 32]))]), oT 2 (.mov (.t 19))])
 (.ret))))) [.t 2]
/-- internal/stringslite.IndexByte -/
def m174 : MFun := .code 8 (
 .seq (.reg [oT 4 (.mov (.c (.int .i64 0)))])
 (.seq (.reg [oT 5 (.mov (.t 0)), oT 6 (.mov (.t 1)), oT 7 (.call 188 [(.t 5), (.t 6)]), oT 4 (.mov (.t 7))])
 (.ret))) [.t 4]
/-- (*stockade/tree.parser).worded -/
def m176 : MFun := .code 79 (
 .seq (.reg [oT 2 (.new .own [(.int .i64 0), (.int .i64 0), (.str []), (.int .i64 0), (.int .i64 0), (.int .i64 0), (.int .i64 0), (.int .u64 0), .nilSlice])])
 (.seq (.reg [oT 7 (.mov (.t 0)), oT 8 (.call 48 [(.t 7)]), oT 9 (.fld false 4 1 (.t 8)), oT 3 (.mov (.t 9))])
 (.seq (.seq (.reg [oT 10 (.mov (.t 0)), oT 11 (.nilck (.t 10)), oT 12 (.faddr 0 (.t 11)), oT 13 (.load false 1 (.t 12)), oT 14 (.lenL (.t 13)), oT 15 (.bin .gtr (.t 14) (.c (.int .i64 1))), oT 16 (.mov (.t 15)), oG 17 16 (.mov (.t 0)), oG 18 16 (.nilck (.t 17)), oG 19 16 (.faddr 0 (.t 18)), oG 20 16 (.load false 1 (.t 19)), oG 21 16 (.iaddr 5 (.t 20) (.c (.int .i64 1))), oG 22 16 (.faddr 0 (.t 21)), oG 23 16 (.load false 1 (.t 22)), oG 24 16 (.bin .eql (.t 23) (.c (.int .i64 5))), oT 25 (.pick (.t 16) (.t 24) (.c (.bool false)))])
 (.cond (.t 25)
  (.seq (.reg [oT 26 (.mov (.t 0)), oT 27 (.nilck (.t 26)), oT 28 (.faddr 0 (.t 27)), oT 29 (.load false 1 (.t 28)), oT 30 (.iaddr 5 (.t 29) (.c (.int .i64 1))), oT 31 (.faddr 1 (.t 30)), oT 32 (.load false 1 (.t 31))])
  (.block 0 (.seq (.reg [oT 34 (.bin .eql (.t 32) (.c (.str [58, 61]))), oT 33 (.mov (.t 34))])
  (.cond (.t 33)
   (.seq (.reg [oT 35 (.mov (.t 3)), oT 36 (.mov (.t 0)), oT 37 (.call 87 [(.t 36), (.c (.int .i64 1))]), oT 38 (.fld false 1 1 (.t 37)), oT 39 (.build [(.int .i64 0), (.int .i64 0), (.str []), (.int .i64 0), (.int .i64 0), (.int .i64 0), (.int .i64 0), (.int .u64 0), .nilSlice] [(0, 1, (.c (.int .i64 11))), (1, 1, (.t 35)), (2, 1, (.t 38))]), oT 4 (.new .own [(.int .i64 0), (.int .i64 0), (.str []), (.int .i64 0), (.int .i64 0), (.int .i64 0), (.int .i64 0), (.int .u64 0), .nilSlice]), oN (.store 9 (.t 4) (.t 39))])
   (.seq (.reg [oT 40 (.mov (.t 0)), oT 41 (.call 92 [(.t 40), (.c (.str [58, 61]))])])
   (.seq (.reg [oT 42 (.mov (.t 0)), oT 43 (.call 59 [(.t 42)]), oT 44 (.bslice 9 [(.int .i64 0), (.int .i64 0), (.str []), (.int .i64 0), (.int .i64 0), (.int .i64 0), (.int .i64 0), (.int .u64 0), .nilSlice] 1 [(0, 9, (.t 43))]), oT 45 (.faddr 8 (.t 4)), oN (.store 1 (.t 45) (.t 44))])
   (.seq (.reg [oT 46 (.load true 9 (.t 4)), oN (.store 9 (.t 2) (.t 46))])
   (.ret)))))
   (.seq (.reg [oT 48 (.bin .eql (.t 32) (.c (.str [40]))), oT 47 (.mov (.t 48))])
   (.cond (.t 47)
    (.seq (.reg [oT 49 (.mov (.t 3)), oT 50 (.mov (.t 0)), oT 51 (.call 87 [(.t 50), (.c (.int .i64 1))]), oT 52 (.fld false 1 1 (.t 51)), oT 53 (.build [(.int .i64 0), (.int .i64 0), (.str []), (.int .i64 0), (.int .i64 0), (.int .i64 0), (.int .i64 0), (.int .u64 0), .nilSlice] [(0, 1, (.c (.int .i64 13))), (1, 1, (.t 49)), (2, 1, (.t 52))]), oT 5 (.new .own [(.int .i64 0), (.int .i64 0), (.str []), (.int .i64 0), (.int .i64 0), (.int .i64 0), (.int .i64 0), (.int .u64 0), .nilSlice]), oN (.store 9 (.t 5) (.t 53))])
    (.seq (.reg [oT 54 (.mov (.t 0)), oT 55 (.call 177 [(.t 54)]), oT 56 (.faddr 8 (.t 5)), oN (.store 1 (.t 56) (.t 55))])
    (.seq (.reg [oT 57 (.load true 9 (.t 5)), oN (.store 9 (.t 2) (.t 57))])
    (.ret))))
    (.skip)))))))
  (.skip)))
 (.seq (.reg [oT 58 (.mov (.t 0)), oT 59 (.call 189 [(.t 58)]), oT 6 (.new .own [(.int .i64 0), (.int .i64 0), (.str []), (.int .i64 0), (.int .i64 0), (.int .i64 0), (.int .i64 0), (.int .u64 0), .nilSlice]), oN (.store 9 (.t 6) (.t 59))])
 (.seq (.seq (.reg [oT 60 (.faddr 0 (.t 6)), oT 61 (.load false 1 (.t 60)), oT 62 (.bin .eql (.t 61) (.c (.int .i64 28))), oT 63 (.mov (.t 62)), oG 64 63 (.mov (.t 0)), oG 65 63 (.bslice 1 [(.str [])] 1 [(0, 1, (.c (.str [61])))]), oG 66 63 (.call 86 [(.t 64), (.t 65)]), oG 67 63 (.un .not (.t 66)), oT 68 (.pick (.t 63) (.t 67) (.c (.bool false)))])
 (.cond (.t 68)
  (.reg [oT 69 (.mov (.t 0)), oT 70 (.call 85 [(.t 69)])])
  (.skip)))
 (.seq (.reg [oT 71 (.mov (.t 0)), oT 72 (.call 92 [(.t 71), (.c (.str [61]))])])
 (.seq (.regD [oD 0 73 0 (.mov (.t 3)), oD 1 74 0 (.load true 9 (.t 6)), oD 2 75 0 (.mov (.t 0)), oD 3 76 4 (.call 59 [(.t 75)]), oD 4 77 14 (.bslice 9 [(.int .i64 0), (.int .i64 0), (.str []), (.int .i64 0), (.int .i64 0), (.int .i64 0), (.int .i64 0), (.int .u64 0), .nilSlice, (.int .i64 0), (.int .i64 0), (.str []), (.int .i64 0), (.int .i64 0), (.int .i64 0), (.int .i64 0), (.int .u64 0), .nilSlice] 2 [(0, 9, (.t 74)), (9, 9, (.t 76))]), oD 5 78 31 (.build [(.int .i64 0), (.int .i64 0), (.str []), (.int .i64 0), (.int .i64 0), (.int .i64 0), (.int .i64 0), (.int .u64 0), .nilSlice] [(0, 1, (.c (.int .i64 10))), (1, 1, (.t 73)), (8, 1, (.t 77))]), oE 6 63 (.store 9 (.t 2) (.t 78))])
 (.ret)))))))) [.cell 2 true 9]
/-- (*stockade/tree.parser).args -/
def m177 : MFun := .code 22 (
 .seq (.reg [oT 2 (.mov (.c .nilSlice))])
 (.seq (.reg [oT 3 (.mov (.c .nilSlice))])
 (.seq (.reg [oT 5 (.mov (.t 0)), oT 6 (.call 136 [(.t 5), (.c (.str [40]))])])
 (.seq (.seq (.reg [oT 7 (.mov (.t 0)), oT 8 (.bslice 1 [(.str [])] 1 [(0, 1, (.c (.str [41])))]), oT 9 (.call 86 [(.t 7), (.t 8)]), oT 10 (.un .not (.t 9)), oT 4 (.mov (.t 10))])
 (.block 0 (.loop (.seq (.seq (.reg [oT 11 (.mov (.t 4))])
 (.cond (.t 11)
  (.skip)
  (.exit 0)))
 (.seq (.block 1 (.reg [oT 14 (.mov (.t 3)), oT 15 (.mov (.t 0)), oT 16 (.call 59 [(.t 15)]), oT 17 (.bslice 9 [(.int .i64 0), (.int .i64 0), (.str []), (.int .i64 0), (.int .i64 0), (.int .i64 0), (.int .i64 0), (.int .u64 0), .nilSlice] 1 [(0, 9, (.t 16))]), oT 18 (.append .own 9 96 (.t 14) (.t 17)), oT 3 (.mov (.t 18))]))
 (.reg [oT 12 (.mov (.t 0)), oT 13 (.call 135 [(.t 12), (.c (.str [44]))]), oT 4 (.mov (.t 13))]))))))
 (.seq (.reg [oT 19 (.mov (.t 0)), oT 20 (.call 138 [(.t 19), (.c (.str [41]))])])
 (.seq (.reg [oT 21 (.mov (.t 3)), oT 2 (.mov (.t 21))])
 (.ret))))))) [.t 2]
/-- (*stockade/tree.parser).named -/
def m178 : MFun := .code 41 (
 .seq (.reg [oT 6 (.new .own [(.int .i64 0), (.int .i64 0), (.str []), (.int .i64 0), (.int .i64 0), (.int .i64 0), (.int .i64 0), (.int .u64 0), .nilSlice])])
 (.seq (.reg [oT 8 (.mov (.t 1)), oT 9 (.mov (.t 0)), oT 10 (.call 48 [(.t 9)]), oT 11 (.fld false 4 1 (.t 10)), oT 12 (.build [(.int .i64 0), (.int .i64 0), (.str []), (.int .i64 0), (.int .i64 0), (.int .i64 0), (.int .i64 0), (.int .u64 0), .nilSlice] [(0, 1, (.t 8)), (1, 1, (.t 11))]), oT 7 (.new .own [(.int .i64 0), (.int .i64 0), (.str []), (.int .i64 0), (.int .i64 0), (.int .i64 0), (.int .i64 0), (.int .u64 0), .nilSlice]), oN (.store 9 (.t 7) (.t 12))])
 (.seq (.reg [oT 13 (.mov (.t 0)), oT 14 (.mov (.t 0)), oT 15 (.nilck (.t 14)), oT 16 (.faddr 0 (.t 15)), oT 17 (.load false 1 (.t 16)), oT 18 (.slc 5 (.t 17) (some (.c (.int .i64 1))) none none), oT 19 (.nilck (.t 13)), oT 20 (.faddr 0 (.t 19)), oN (.store 1 (.t 20) (.t 18))])
 (.seq (.reg [oT 21 (.mov (.t 0)), oT 22 (.call 87 [(.t 21), (.c (.int .i64 1))]), oT 23 (.fld false 1 1 (.t 22)), oT 24 (.faddr 2 (.t 7)), oN (.store 1 (.t 24) (.t 23))])
 (.seq (.seq (.reg [oT 25 (.mov (.t 2)), oT 26 (.bin .eql (.t 25) (.c (.int .i64 0)))])
 (.cond (.t 26)
  (.seq (.reg [oT 27 (.load true 9 (.t 7)), oN (.store 9 (.t 6) (.t 27))])
  (.ret))
  (.skip)))
 (.seq (.reg [oT 28 (.mov (.t 0)), oT 29 (.call 92 [(.t 28), (.c (.str [44]))])])
 (.seq (.seq (.reg [oT 30 (.mov (.t 2)), oT 31 (.bin .eql (.t 30) (.c (.int .i64 1)))])
 (.cond (.t 31)
  (.reg [oT 32 (.mov (.t 0)), oT 33 (.call 59 [(.t 32)]), oT 34 (.bslice 9 [(.int .i64 0), (.int .i64 0), (.str []), (.int .i64 0), (.int .i64 0), (.int .i64 0), (.int .i64 0), (.int .u64 0), .nilSlice] 1 [(0, 9, (.t 33))]), oT 35 (.faddr 8 (.t 7)), oN (.store 1 (.t 35) (.t 34))])
  (.reg [oT 36 (.mov (.t 0)), oT 37 (.call 189 [(.t 36)]), oT 38 (.bslice 9 [(.int .i64 0), (.int .i64 0), (.str []), (.int .i64 0), (.int .i64 0), (.int .i64 0), (.int .i64 0), (.int .u64 0), .nilSlice] 1 [(0, 9, (.t 37))]), oT 39 (.faddr 8 (.t 7)), oN (.store 1 (.t 39) (.t 38))])))
 (.seq (.reg [oT 40 (.load true 9 (.t 7)), oN (.store 9 (.t 6) (.t 40))])
 (.ret))))))))) [.cell 6 true 9]
/-- (stockade/show.form).target -/
def m179 : MFun := .code 17 (
 .seq (.reg [oT 2 (.box (.t 0)), oT 3 (.box (.t 1))])
 (.seq (.reg [oT 4 (.load true 0 (.t 2)), oT 5 (.faddr 0 (.t 3)), oT 6 (.load false 1 (.t 5)), oT 7 (.bin .eql (.t 6) (.c (.int .i64 28))), oT 8 (.mov (.t 7)), oH 9 8 (.faddr 0 (.t 3)), oH 10 8 (.load false 1 (.t 9)), oH 11 8 (.bin .eql (.t 10) (.c (.int .i64 29))), oT 12 (.pick (.t 8) (.c (.bool true)) (.t 11)), oT 13 (.call 94 [(.t 4), (.t 12)])])
 (.reg [oT 14 (.load true 0 (.t 2)), oT 15 (.load true 9 (.t 3)), oT 16 (.call 57 [(.t 14), (.t 15)])]))) []
/-- (*stockade/tree.parser).prod -/
def m187 : MFun := .code 8 (
 .seq (.reg [oT 2 (.new .own [(.int .i64 0), (.int .i64 0), (.str []), (.int .i64 0), (.int .i64 0), (.int .i64 0), (.int .i64 0), (.int .u64 0), .nilSlice])])
 (.seq (.reg [oT 3 (.mov (.t 0)), oT 4 (.mov (.t 0)), oT 5 (.mkfn (.func 192) [(.t 4)] []), oT 6 (.bslice 1 [(.str []), (.str []), (.str [])] 3 [(0, 1, (.c (.str [42]))), (1, 1, (.c (.str [47]))), (2, 1, (.c (.str [37])))]), oT 7 (.call 104 [(.t 3), (.t 5), (.c (.bool true)), (.t 6)]), oN (.store 9 (.t 2) (.t 7))])
 (.ret))) [.cell 2 true 9]
/-- (*stockade/tree.parser).name -/
def m189 : MFun := .code 25 (
 .seq (.reg [oT 2 (.new .own [(.int .i64 0), (.int .i64 0), (.str []), (.int .i64 0), (.int .i64 0), (.int .i64 0), (.int .i64 0), (.int .u64 0), .nilSlice])])
 (.seq (.reg [oT 5 (.mov (.t 0)), oT 6 (.call 87 [(.t 5), (.c (.int .i64 1))]), oT 3 (.new .own [(.int .i64 0), (.str []), (.int .i64 0), (.int .u64 0), (.int .i64 0)]), oN (.store 5 (.t 3) (.t 6))])
 (.seq (.reg [oT 7 (.faddr 4 (.t 3)), oT 8 (.load false 1 (.t 7)), oT 9 (.faddr 1 (.t 3)), oT 10 (.load false 1 (.t 9)), oT 11 (.build [(.int .i64 0), (.int .i64 0), (.str []), (.int .i64 0), (.int .i64 0), (.int .i64 0), (.int .i64 0), (.int .u64 0), .nilSlice] [(0, 1, (.c (.int .i64 28))), (1, 1, (.t 8)), (2, 1, (.t 10))]), oT 4 (.new .own [(.int .i64 0), (.int .i64 0), (.str []), (.int .i64 0), (.int .i64 0), (.int .i64 0), (.int .i64 0), (.int .u64 0), .nilSlice]), oN (.store 9 (.t 4) (.t 11))])
 (.seq (.seq (.reg [oT 12 (.mov (.t 0)), oT 13 (.bslice 1 [(.str [])] 1 [(0, 1, (.c (.str [91])))]), oT 14 (.call 86 [(.t 12), (.t 13)])])
 (.cond (.t 14)
  (.seq (.reg [oT 15 (.faddr 0 (.t 4)), oN (.store 1 (.t 15) (.c (.int .i64 29)))])
  (.seq (.reg [oT 16 (.mov (.t 0)), oT 17 (.call 136 [(.t 16), (.c (.str [91]))])])
  (.seq (.reg [oT 18 (.mov (.t 0)), oT 19 (.call 59 [(.t 18)]), oT 20 (.bslice 9 [(.int .i64 0), (.int .i64 0), (.str []), (.int .i64 0), (.int .i64 0), (.int .i64 0), (.int .i64 0), (.int .u64 0), .nilSlice] 1 [(0, 9, (.t 19))]), oT 21 (.faddr 8 (.t 4)), oN (.store 1 (.t 21) (.t 20))])
  (.reg [oT 22 (.mov (.t 0)), oT 23 (.call 138 [(.t 22), (.c (.str [93]))])]))))
  (.skip)))
 (.seq (.reg [oT 24 (.load true 9 (.t 4)), oN (.store 9 (.t 2) (.t 24))])
 (.ret)))))) [.cell 2 true 9]
/-- (*stockade/tree.parser).unary -/
def m192 : MFun := .code 32 (
 .seq (.reg [oT 2 (.new .own [(.int .i64 0), (.int .i64 0), (.str []), (.int .i64 0), (.int .i64 0), (.int .i64 0), (.int .i64 0), (.int .u64 0), .nilSlice])])
 (.seq (.seq (.reg [oT 5 (.mov (.t 0)), oT 6 (.bslice 1 [(.str []), (.str [])] 2 [(0, 1, (.c (.str [45]))), (1, 1, (.c (.str [33])))]), oT 7 (.call 86 [(.t 5), (.t 6)]), oT 8 (.un .not (.t 7))])
 (.cond (.t 8)
  (.seq (.reg [oT 9 (.mov (.t 0)), oT 10 (.call 193 [(.t 9)]), oN (.store 9 (.t 2) (.t 10))])
  (.ret))
  (.skip)))
 (.seq (.reg [oT 11 (.mov (.t 0)), oT 12 (.mov (.t 0)), oT 13 (.call 48 [(.t 12)]), oT 14 (.fld false 1 1 (.t 13)), oT 15 (.call 136 [(.t 11), (.t 14)]), oT 3 (.new .own [(.int .i64 0), (.str []), (.int .i64 0), (.int .u64 0), (.int .i64 0)]), oN (.store 5 (.t 3) (.t 15))])
 (.seq (.regD [oD 8 4 0 (.new .own [(.int .i64 0), (.int .i64 0), (.str []), (.int .i64 0), (.int .i64 0), (.int .i64 0), (.int .i64 0), (.int .u64 0), .nilSlice]), oD 0 16 0 (.faddr 4 (.t 3)), oD 1 17 1 (.load false 1 (.t 16)), oD 2 18 0 (.faddr 1 (.t 3)), oD 3 19 4 (.load false 1 (.t 18)), oD 4 20 0 (.mov (.t 0)), oD 5 21 16 (.call 192 [(.t 20)]), oD 6 22 48 (.bslice 9 [(.int .i64 0), (.int .i64 0), (.str []), (.int .i64 0), (.int .i64 0), (.int .i64 0), (.int .i64 0), (.int .u64 0), .nilSlice] 1 [(0, 9, (.t 21))]), oD 7 23 127 (.build [(.int .i64 0), (.int .i64 0), (.str []), (.int .i64 0), (.int .i64 0), (.int .i64 0), (.int .i64 0), (.int .u64 0), .nilSlice] [(0, 1, (.c (.int .i64 30))), (1, 1, (.t 17)), (2, 1, (.t 19)), (8, 1, (.t 22))]), oE 9 511 (.store 9 (.t 4) (.t 23))])
 (.seq (.reg [oT 24 (.mov (.t 0)), oT 25 (.nilck (.t 24)), oT 26 (.faddr 2 (.t 25)), oT 27 (.load false 1 (.t 26)), oT 28 (.bin .sub (.t 27) (.c (.int .i64 1))), oT 29 (.nilck (.t 24)), oT 30 (.faddr 2 (.t 29)), oN (.store 1 (.t 30) (.t 28))])
 (.seq (.reg [oT 31 (.load true 9 (.t 4)), oN (.store 9 (.t 2) (.t 31))])
 (.ret))))))) [.cell 2 true 9]
/-- (*stockade/tree.parser).prim -/
def m193 : MFun := .code 78 (
 .seq (.reg [oT 2 (.new .own [(.int .i64 0), (.int .i64 0), (.str []), (.int .i64 0), (.int .i64 0), (.int .i64 0), (.int .i64 0), (.int .u64 0), .nilSlice])])
 (.seq (.reg [oT 6 (.mov (.t 0)), oT 7 (.call 48 [(.t 6)]), oT 3 (.new .own [(.int .i64 0), (.str []), (.int .i64 0), (.int .u64 0), (.int .i64 0)]), oN (.store 5 (.t 3) (.t 7))])
 (.seq (.block 0 (.seq (.reg [oT 9 (.faddr 0 (.t 3)), oT 10 (.load false 1 (.t 9)), oT 11 (.bin .eql (.t 10) (.c (.int .i64 3))), oT 8 (.mov (.t 11))])
 (.cond (.t 8)
  (.seq (.regD [oD 0 12 0 (.faddr 4 (.t 3)), oD 1 13 1 (.load false 1 (.t 12)), oD 2 14 0 (.mov (.t 0)), oD 3 15 4 (.call 87 [(.t 14), (.c (.int .i64 3))]), oD 4 16 12 (.fld false 2 1 (.t 15)), oD 5 17 31 (.build [(.int .i64 0), (.int .i64 0), (.str []), (.int .i64 0), (.int .i64 0), (.int .i64 0), (.int .i64 0), (.int .u64 0), .nilSlice] [(0, 1, (.c (.int .i64 25))), (1, 1, (.t 13)), (4, 1, (.t 16))]), oE 6 63 (.store 9 (.t 2) (.t 17))])
  (.ret))
  (.seq (.reg [oT 19 (.faddr 0 (.t 3)), oT 20 (.load false 1 (.t 19)), oT 21 (.bin .eql (.t 20) (.c (.int .i64 4))), oT 18 (.mov (.t 21))])
  (.cond (.t 18)
   (.seq (.regD [oD 0 22 0 (.faddr 4 (.t 3)), oD 1 23 1 (.load false 1 (.t 22)), oD 2 24 0 (.mov (.t 0)), oD 3 25 4 (.call 87 [(.t 24), (.c (.int .i64 4))]), oD 4 26 12 (.fld false 3 1 (.t 25)), oD 5 27 31 (.build [(.int .i64 0), (.int .i64 0), (.str []), (.int .i64 0), (.int .i64 0), (.int .i64 0), (.int .i64 0), (.int .u64 0), .nilSlice] [(0, 1, (.c (.int .i64 26))), (1, 1, (.t 23)), (7, 1, (.t 26))]), oE 6 63 (.store 9 (.t 2) (.t 27))])
   (.ret))
   (.seq (.reg [oT 29 (.faddr 0 (.t 3)), oT 30 (.load false 1 (.t 29)), oT 31 (.bin .eql (.t 30) (.c (.int .i64 1))), oT 28 (.mov (.t 31))])
   (.cond (.t 28)
    (.seq (.reg [oT 32 (.mov (.t 0)), oT 33 (.call 189 [(.t 32)]), oN (.store 9 (.t 2) (.t 33))])
    (.ret))
    (.seq (.reg [oT 35 (.mov (.t 0)), oT 36 (.call 135 [(.t 35), (.c (.str [116, 114, 117, 101]))]), oT 34 (.mov (.t 36))])
    (.cond (.t 34)
     (.seq (.reg [oT 37 (.faddr 4 (.t 3)), oT 38 (.load false 1 (.t 37)), oT 39 (.build [(.int .i64 0), (.int .i64 0), (.str []), (.int .i64 0), (.int .i64 0), (.int .i64 0), (.int .i64 0), (.int .u64 0), .nilSlice] [(0, 1, (.c (.int .i64 27))), (1, 1, (.t 38)), (4, 1, (.c (.int .i64 1)))]), oN (.store 9 (.t 2) (.t 39))])
     (.ret))
     (.seq (.reg [oT 41 (.mov (.t 0)), oT 42 (.call 135 [(.t 41), (.c (.str [102, 97, 108, 115, 101]))]), oT 40 (.mov (.t 42))])
     (.cond (.t 40)
      (.seq (.reg [oT 43 (.faddr 4 (.t 3)), oT 44 (.load false 1 (.t 43)), oT 45 (.build [(.int .i64 0), (.int .i64 0), (.str []), (.int .i64 0), (.int .i64 0), (.int .i64 0), (.int .i64 0), (.int .u64 0), .nilSlice] [(0, 1, (.c (.int .i64 27))), (1, 1, (.t 44))]), oN (.store 9 (.t 2) (.t 45))])
      (.ret))
      (.seq (.reg [oT 47 (.mov (.t 0)), oT 48 (.bslice 1 [(.str []), (.str [])] 2 [(0, 1, (.c (.str [105, 110, 116]))), (1, 1, (.c (.str [102, 108, 111, 97, 116])))]), oT 49 (.call 86 [(.t 47), (.t 48)]), oT 46 (.mov (.t 49))])
      (.cond (.t 46)
       (.seq (.reg [oT 50 (.mov (.t 0)), oT 51 (.mov (.t 0)), oT 52 (.nilck (.t 51)), oT 53 (.faddr 0 (.t 52)), oT 54 (.load false 1 (.t 53)), oT 55 (.slc 5 (.t 54) (some (.c (.int .i64 1))) none none), oT 56 (.nilck (.t 50)), oT 57 (.faddr 0 (.t 56)), oN (.store 1 (.t 57) (.t 55))])
       (.seq (.reg [oT 58 (.mov (.t 0)), oT 59 (.call 136 [(.t 58), (.c (.str [40]))])])
       (.seq (.regD [oD 8 4 0 (.new .own [(.int .i64 0), (.int .i64 0), (.str []), (.int .i64 0), (.int .i64 0), (.int .i64 0), (.int .i64 0), (.int .u64 0), .nilSlice]), oD 0 60 0 (.faddr 4 (.t 3)), oD 1 61 1 (.load false 1 (.t 60)), oD 2 62 0 (.faddr 1 (.t 3)), oD 3 63 4 (.load false 1 (.t 62)), oD 4 64 0 (.mov (.t 0)), oD 5 65 16 (.call 59 [(.t 64)]), oD 6 66 48 (.bslice 9 [(.int .i64 0), (.int .i64 0), (.str []), (.int .i64 0), (.int .i64 0), (.int .i64 0), (.int .i64 0), (.int .u64 0), .nilSlice] 1 [(0, 9, (.t 65))]), oD 7 67 127 (.build [(.int .i64 0), (.int .i64 0), (.str []), (.int .i64 0), (.int .i64 0), (.int .i64 0), (.int .i64 0), (.int .u64 0), .nilSlice] [(0, 1, (.c (.int .i64 30))), (1, 1, (.t 61)), (2, 1, (.t 63)), (8, 1, (.t 66))]), oE 9 511 (.store 9 (.t 4) (.t 67))])
       (.seq (.reg [oT 68 (.mov (.t 0)), oT 69 (.call 138 [(.t 68), (.c (.str [41]))])])
       (.seq (.reg [oT 70 (.load true 9 (.t 4)), oN (.store 9 (.t 2) (.t 70))])
       (.ret))))))
       (.skip))))))))))))))
 (.seq (.reg [oT 71 (.mov (.t 0)), oT 72 (.call 136 [(.t 71), (.c (.str [40]))])])
 (.seq (.reg [oT 73 (.mov (.t 0)), oT 74 (.call 59 [(.t 73)]), oT 5 (.new .own [(.int .i64 0), (.int .i64 0), (.str []), (.int .i64 0), (.int .i64 0), (.int .i64 0), (.int .i64 0), (.int .u64 0), .nilSlice]), oN (.store 9 (.t 5) (.t 74))])
 (.seq (.reg [oT 75 (.mov (.t 0)), oT 76 (.call 138 [(.t 75), (.c (.str [41]))])])
 (.seq (.reg [oT 77 (.load true 9 (.t 5)), oN (.store 9 (.t 2) (.t 77))])
 (.ret)))))))) [.cell 2 true 9]
end Go.Ev
