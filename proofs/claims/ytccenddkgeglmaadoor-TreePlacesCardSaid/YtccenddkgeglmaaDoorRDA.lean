/- Functions of the program, as the evaluator reads them: printed by program. -/
import Derived.Test.YtccenddkgeglmaaDoorEvC
set_option linter.all false
set_option linter.unusedVariables false
set_option linter.unusedSimpArgs false
namespace Go.Ev
/-- stockade/stockadelaw06.TreePlaces -/
def m13 : MFun := .code 65 (
 .seq (.reg [oT 2 (.mov (.c (.bool false)))])
 (.seq (.seq (.reg [oT 9 (.call 18 []), oT 10 (.un .not (.t 9))])
 (.cond (.t 10)
  (.seq (.reg [oT 2 (.mov (.c (.bool false)))])
  (.ret))
  (.skip)))
 (.seq (.reg [oT 12 (.mov (.t 0)), oT 13 (.call 30 [(.t 12)]), oT 11 (.mov (.t 13)), oT 14 (.ext (.t 11) 0), oT 15 (.ext (.t 11) 1), oT 3 (.new [(.int .i64 0), (.int .i64 0), (.str []), (.int .i64 0), (.int .i64 0), (.int .i64 0), (.int .i64 0), (.int .u64 0), .nilSlice]), oT 4 (.new [.nilIface, (.int .i64 0)]), oN (.store 9 (.t 3) (.t 14)), oN (.store 2 (.t 4) (.t 15))])
 (.seq (.seq (.reg [oT 16 (.faddr 0 (.t 4)), oT 17 (.load false 1 (.t 16)), oT 18 (.eqv true (.one .iface) (.t 17) (.c .nilIface))])
 (.cond (.t 18)
  (.seq (.reg [oT 19 (.faddr 0 (.t 3)), oT 20 (.load false 1 (.t 19)), oT 21 (.bin .eql (.t 20) (.c (.int .i64 0))), oT 22 (.mov (.t 21)), oG 23 22 (.faddr 8 (.t 3)), oG 24 22 (.load false 1 (.t 23)), oG 25 22 (.lenL (.t 24)), oG 26 22 (.bin .eql (.t 25) (.c (.int .i64 0))), oT 27 (.pick (.t 22) (.t 26) (.c (.bool false))), oT 28 (.mov (.t 27)), oG 29 28 (.faddr 1 (.t 4)), oG 30 28 (.load false 1 (.t 29)), oG 31 28 (.bin .geq (.t 30) (.c (.int .i64 0))), oT 32 (.pick (.t 28) (.t 31) (.c (.bool false))), oT 33 (.mov (.t 32)), oG 34 33 (.faddr 1 (.t 4)), oG 35 33 (.load false 1 (.t 34)), oG 36 33 (.mov (.t 0)), oG 37 33 (.lenS (.t 36)), oG 38 33 (.bin .leq (.t 35) (.t 37)), oT 39 (.pick (.t 33) (.t 38) (.c (.bool false))), oT 2 (.mov (.t 39))])
  (.ret))
  (.skip)))
 (.seq (.reg [oT 41 (.mov (.t 0)), oT 42 (.call 15 [(.t 41)]), oT 40 (.mov (.t 42)), oT 43 (.ext (.t 40) 0), oT 44 (.ext (.t 40) 1), oT 5 (.mov (.t 43)), oN (.store 2 (.t 4) (.t 44))])
 (.seq (.seq (.reg [oT 45 (.faddr 0 (.t 4)), oT 46 (.load false 1 (.t 45)), oT 47 (.eqv true (.one .iface) (.t 46) (.c .nilIface))])
 (.cond (.t 47)
  (.seq (.reg [oT 2 (.mov (.c (.bool false)))])
  (.ret))
  (.skip)))
 (.seq (.reg [oT 48 (.mkmap), oT 49 (.mov (.t 0)), oT 50 (.lenS (.t 49)), oN (.mapupd (.one .int) (.t 48) (.t 50) (.c (.bool true))), oT 51 (.mov (.t 48)), oT 6 (.mov (.t 51))])
 (.seq (.seq (.reg [oT 52 (.mov (.t 5)), oT 53 (.lenL (.t 52)), oT 54 (.mov (.c (.int .i64 0)))])
 (.block 0 (.loop (.seq (.reg [oT 55 (.bin .lss (.t 54) (.t 53))])
 (.seq (.cond (.t 55)
  (.skip)
  (.exit 0))
 (.seq (.block 1 (.seq (.reg [oT 56 (.iaddr 5 (.t 52) (.t 54)), oT 57 (.load true 5 (.t 56)), oT 8 (.new [(.int .i64 0), (.str []), (.int .i64 0), (.int .u64 0), (.int .i64 0)]), oN (.store 5 (.t 8) (.t 57))])
 (.reg [oT 58 (.mov (.t 6)), oT 59 (.faddr 4 (.t 8)), oT 60 (.load false 1 (.t 59)), oN (.mapupd (.one .int) (.t 58) (.t 60) (.c (.bool true)))])))
 (.reg [oT 61 (.bin .add (.t 54) (.c (.int .i64 1))), oT 54 (.mov (.t 61))])))))))
 (.seq (.reg [oT 62 (.load true 9 (.t 3)), oT 63 (.mov (.t 6)), oT 64 (.call 31 [(.t 62), (.t 63)]), oT 2 (.mov (.t 64))])
 (.ret)))))))))) [.t 2]
/-- stockade/stockadelaw05.alive -/
def m14 : MFun := .code 58 (
 .seq (.reg [oT 0 (.mov (.c (.bool false)))])
 (.seq (.reg [oT 6 (.call 15 [(.c (.str [120, 58, 61, 49, 59]))]), oT 5 (.mov (.t 6)), oT 7 (.ext (.t 5) 0), oT 8 (.ext (.t 5) 1), oT 2 (.new [.nilIface, (.int .i64 0)]), oT 1 (.mov (.t 7)), oN (.store 2 (.t 2) (.t 8))])
 (.seq (.reg [oT 10 (.call 15 [(.c (.str [48, 49]))]), oT 9 (.mov (.t 10)), oT 11 (.ext (.t 9) 0), oT 12 (.ext (.t 9) 1), oT 4 (.new [.nilIface, (.int .i64 0)]), oT 3 (.mov (.t 11)), oN (.store 2 (.t 4) (.t 12))])
 (.seq (.reg [oT 13 (.faddr 0 (.t 2)), oT 14 (.load false 1 (.t 13)), oT 15 (.eqv false (.one .iface) (.t 14) (.c .nilIface)), oT 16 (.mov (.t 15)), oG 17 16 (.faddr 1 (.t 2)), oG 18 16 (.load false 1 (.t 17)), oG 19 16 (.bin .eql (.t 18) (.c (.int .i64 0))), oT 20 (.pick (.t 16) (.t 19) (.c (.bool false))), oT 21 (.mov (.t 20)), oG 22 21 (.mov (.t 1)), oG 23 21 (.lenL (.t 22)), oG 24 21 (.bin .eql (.t 23) (.c (.int .i64 4))), oT 25 (.pick (.t 21) (.t 24) (.c (.bool false))), oT 26 (.mov (.t 25)), oG 27 26 (.mov (.t 1)), oG 28 26 (.iaddr 5 (.t 27) (.c (.int .i64 1))), oG 29 26 (.faddr 1 (.t 28)), oG 30 26 (.load false 1 (.t 29)), oG 31 26 (.bin .eql (.t 30) (.c (.str [58, 61]))), oT 32 (.pick (.t 26) (.t 31) (.c (.bool false))), oT 33 (.mov (.t 32)), oG 34 33 (.mov (.t 1)), oG 35 33 (.iaddr 5 (.t 34) (.c (.int .i64 2))), oG 36 33 (.faddr 2 (.t 35)), oG 37 33 (.load false 1 (.t 36)), oG 38 33 (.bin .eql (.t 37) (.c (.int .i64 1))), oT 39 (.pick (.t 33) (.t 38) (.c (.bool false))), oT 40 (.mov (.t 39)), oG 41 40 (.mov (.t 1)), oG 42 40 (.iaddr 5 (.t 41) (.c (.int .i64 3))), oG 43 40 (.faddr 4 (.t 42)), oG 44 40 (.load false 1 (.t 43)), oG 45 40 (.bin .eql (.t 44) (.c (.int .i64 4))), oT 46 (.pick (.t 40) (.t 45) (.c (.bool false))), oT 47 (.mov (.t 46)), oG 48 47 (.faddr 0 (.t 4)), oG 49 47 (.load false 1 (.t 48)), oG 50 47 (.call 17 [(.t 49)]), oG 51 47 (.bin .eql (.t 50) (.c (.int .i64 2))), oT 52 (.pick (.t 47) (.t 51) (.c (.bool false))), oT 53 (.mov (.t 52)), oG 54 53 (.faddr 1 (.t 4)), oG 55 53 (.load false 1 (.t 54)), oG 56 53 (.bin .eql (.t 55) (.c (.int .i64 1))), oT 57 (.pick (.t 53) (.t 56) (.c (.bool false))), oT 0 (.mov (.t 57))])
 (.ret))))) [.t 0]
/-- stockade/token.Tokens -/
def m15 : MFun := .code 42 (
 .seq (.reg [oT 2 (.new [.nilSlice]), oT 3 (.new [.nilIface, (.int .i64 0)])])
 (.seq (.seq (.reg [oT 5 (.mov (.t 0)), oT 6 (.lenS (.t 5)), oT 7 (.bin .gtr (.t 6) (.c (.int .i64 8192)))])
 (.cond (.t 7)
  (.seq (.regD [oD 0 8 0 (.load false 1 (.c (.ptr 0 0))), oD 1 9 1 (.build [.nilIface, (.int .i64 0)] [(0, 1, (.t 8))]), oE 2 0 (.store 1 (.t 2) (.c .nilSlice)), oE 3 7 (.store 2 (.t 3) (.t 9))])
  (.ret))
  (.skip)))
 (.seq (.reg [oT 10 (.mkfn (.func 32) [] [(.t 2), (.t 3)]), oN (.defer (.t 10))])
 (.seq (.reg [oT 11 (.mov (.t 0)), oT 12 (.build [(.str []), (.int .i64 0)] [(0, 1, (.t 11))]), oT 13 (.box (.t 12)), oT 4 (.mov (.t 13))])
 (.seq (.seq (.reg [oT 14 (.mov (.t 4)), oT 15 (.call 33 [(.t 14)])])
 (.block 0 (.loop (.seq (.seq (.reg [oT 16 (.mov (.t 4)), oT 17 (.nilck (.t 16)), oT 18 (.faddr 1 (.t 17)), oT 19 (.load false 1 (.t 18)), oT 20 (.mov (.t 0)), oT 21 (.lenS (.t 20)), oT 22 (.bin .lss (.t 19) (.t 21))])
 (.cond (.t 22)
  (.skip)
  (.exit 0)))
 (.seq (.block 1 (.seq (.seq (.reg [oT 25 (.load false 1 (.t 2)), oT 26 (.lenL (.t 25)), oT 27 (.bin .eql (.t 26) (.c (.int .i64 2000)))])
 (.cond (.t 27)
  (.regD [oD 0 28 0 (.mov (.t 4)), oD 1 29 0 (.load false 1 (.c (.ptr 0 0))), oD 2 30 0 (.mov (.t 4)), oD 3 31 4 (.nilck (.t 30)), oD 4 32 12 (.faddr 1 (.t 31)), oD 5 33 28 (.load false 1 (.t 32)), oD 6 34 63 (.call 34 [(.t 28), (.t 29), (.t 33)])])
  (.skip)))
 (.regD [oD 0 35 0 (.load false 1 (.t 2)), oD 1 36 0 (.mov (.t 4)), oD 2 37 2 (.call 35 [(.t 36)]), oD 3 38 6 (.bslice 5 [(.int .i64 0), (.str []), (.int .i64 0), (.int .u64 0), (.int .i64 0)] 1 [(0, 5, (.t 37))]), oD 4 39 15 (.append 5 48 (.t 35) (.t 38)), oE 5 31 (.store 1 (.t 2) (.t 39))])))
 (.reg [oT 23 (.mov (.t 4)), oT 24 (.call 33 [(.t 23)])]))))))
 (.seq (.reg [oT 40 (.load false 1 (.t 2)), oT 41 (.build [.nilIface, (.int .i64 0)] []), oN (.store 1 (.t 2) (.t 40)), oN (.store 2 (.t 3) (.t 41))])
 (.ret))))))) [.cell 2 false 1, .cell 3 true 2]
/-- stockade/stockadenum.Num -/
def m17 : MFun := .code 39 (
 .seq (.reg [oT 2 (.mov (.c (.int .i64 0)))])
 (.seq (.seq (.reg [oT 6 (.mov (.t 0)), oT 7 (.eqv false (.one .iface) (.t 6) (.c .nilIface))])
 (.cond (.t 7)
  (.seq (.reg [oT 2 (.mov (.c (.int .i64 0)))])
  (.ret))
  (.skip)))
 (.seq (.reg [oT 8 (.load false 1 (.c (.ptr 1 0))), oT 9 (.load false 1 (.c (.ptr 2 0))), oT 10 (.load false 1 (.c (.ptr 3 0))), oT 11 (.load false 1 (.c (.ptr 4 0))), oT 12 (.load false 1 (.c (.ptr 5 0))), oT 13 (.load false 1 (.c (.ptr 0 0))), oT 14 (.load false 1 (.c (.ptr 6 0))), oT 15 (.load false 1 (.c (.ptr 7 0))), oT 16 (.load false 1 (.c (.ptr 8 0))), oT 17 (.load false 1 (.c (.ptr 9 0))), oT 18 (.load false 1 (.c (.ptr 10 0))), oT 19 (.load false 1 (.c (.ptr 11 0))), oT 20 (.load false 1 (.c (.ptr 12 0))), oT 21 (.load false 1 (.c (.ptr 13 0))), oT 22 (.load false 1 (.c (.ptr 14 0))), oT 23 (.load false 1 (.c (.ptr 15 0))), oT 24 (.load false 1 (.c (.ptr 16 0))), oT 25 (.bslice 1 [.nilIface, .nilIface, .nilIface, .nilIface, .nilIface, .nilIface, .nilIface, .nilIface, .nilIface, .nilIface, .nilIface, .nilIface, .nilIface, .nilIface, .nilIface, .nilIface, .nilIface] 17 [(0, 1, (.t 8)), (1, 1, (.t 9)), (2, 1, (.t 10)), (3, 1, (.t 11)), (4, 1, (.t 12)), (5, 1, (.t 13)), (6, 1, (.t 14)), (7, 1, (.t 15)), (8, 1, (.t 16)), (9, 1, (.t 17)), (10, 1, (.t 18)), (11, 1, (.t 19)), (12, 1, (.t 20)), (13, 1, (.t 21)), (14, 1, (.t 22)), (15, 1, (.t 23)), (16, 1, (.t 24))]), oT 3 (.mov (.t 25))])
 (.seq (.seq (.reg [oT 26 (.mov (.t 3)), oT 27 (.lenL (.t 26)), oT 28 (.mov (.c (.int .i64 0)))])
 (.block 0 (.loop (.seq (.reg [oT 29 (.bin .lss (.t 28) (.t 27))])
 (.seq (.cond (.t 29)
  (.skip)
  (.exit 0))
 (.seq (.block 1 (.seq (.reg [oT 30 (.mov (.t 28)), oT 31 (.iaddr 1 (.t 26) (.t 28)), oT 32 (.load false 1 (.t 31)), oT 4 (.mov (.t 30)), oT 5 (.mov (.t 32))])
 (.seq (.reg [oT 33 (.mov (.t 0)), oT 34 (.mov (.t 5)), oT 35 (.call 36 [(.t 33), (.t 34)])])
 (.cond (.t 35)
  (.seq (.reg [oT 36 (.mov (.t 4)), oT 37 (.bin .add (.t 36) (.c (.int .i64 1))), oT 2 (.mov (.t 37))])
  (.ret))
  (.skip)))))
 (.reg [oT 38 (.bin .add (.t 28) (.c (.int .i64 1))), oT 28 (.mov (.t 38))])))))))
 (.seq (.reg [oT 2 (.mov (.c (.int .i64 (-1))))])
 (.ret)))))) [.t 2]
/-- stockade/stockadelaw06.alive -/
def m18 : MFun := .code 56 (
 .seq (.reg [oT 0 (.mov (.c (.bool false)))])
 (.seq (.reg [oT 6 (.call 19 [(.c (.str [49, 43, 50, 42, 51]))]), oT 5 (.mov (.t 6)), oT 7 (.ext (.t 5) 0), oT 8 (.ext (.t 5) 1), oT 1 (.new [(.int .i64 0), (.int .i64 0), (.str []), (.int .i64 0), (.int .i64 0), (.int .i64 0), (.int .i64 0), (.int .u64 0), .nilSlice]), oT 2 (.new [.nilIface, (.int .i64 0)]), oN (.store 9 (.t 1) (.t 7)), oN (.store 2 (.t 2) (.t 8))])
 (.seq (.reg [oT 10 (.call 19 [(.c (.str [49, 60, 50, 60, 51]))]), oT 9 (.mov (.t 10)), oT 11 (.ext (.t 9) 0), oT 12 (.ext (.t 9) 1), oT 3 (.new [(.int .i64 0), (.int .i64 0), (.str []), (.int .i64 0), (.int .i64 0), (.int .i64 0), (.int .i64 0), (.int .u64 0), .nilSlice]), oT 4 (.new [.nilIface, (.int .i64 0)]), oN (.store 9 (.t 3) (.t 11)), oN (.store 2 (.t 4) (.t 12))])
 (.seq (.reg [oT 13 (.faddr 0 (.t 2)), oT 14 (.load false 1 (.t 13)), oT 15 (.eqv false (.one .iface) (.t 14) (.c .nilIface)), oT 16 (.mov (.t 15)), oG 17 16 (.faddr 1 (.t 2)), oG 18 16 (.load false 1 (.t 17)), oG 19 16 (.bin .eql (.t 18) (.c (.int .i64 0))), oT 20 (.pick (.t 16) (.t 19) (.c (.bool false))), oT 21 (.mov (.t 20)), oG 22 21 (.faddr 0 (.t 1)), oG 23 21 (.load false 1 (.t 22)), oG 24 21 (.bin .eql (.t 23) (.c (.int .i64 31))), oT 25 (.pick (.t 21) (.t 24) (.c (.bool false))), oT 26 (.mov (.t 25)), oG 27 26 (.faddr 2 (.t 1)), oG 28 26 (.load false 1 (.t 27)), oG 29 26 (.bin .eql (.t 28) (.c (.str [43]))), oT 30 (.pick (.t 26) (.t 29) (.c (.bool false))), oT 31 (.mov (.t 30)), oG 32 31 (.faddr 8 (.t 1)), oG 33 31 (.load false 1 (.t 32)), oG 34 31 (.lenL (.t 33)), oG 35 31 (.bin .eql (.t 34) (.c (.int .i64 2))), oT 36 (.pick (.t 31) (.t 35) (.c (.bool false))), oT 37 (.mov (.t 36)), oG 38 37 (.faddr 8 (.t 1)), oG 39 37 (.load false 1 (.t 38)), oG 40 37 (.iaddr 9 (.t 39) (.c (.int .i64 1))), oG 41 37 (.faddr 2 (.t 40)), oG 42 37 (.load false 1 (.t 41)), oG 43 37 (.bin .eql (.t 42) (.c (.str [42]))), oT 44 (.pick (.t 37) (.t 43) (.c (.bool false))), oT 45 (.mov (.t 44)), oG 46 45 (.faddr 0 (.t 4)), oG 47 45 (.load false 1 (.t 46)), oG 48 45 (.call 17 [(.t 47)]), oG 49 45 (.bin .eql (.t 48) (.c (.int .i64 2))), oT 50 (.pick (.t 45) (.t 49) (.c (.bool false))), oT 51 (.mov (.t 50)), oG 52 51 (.faddr 1 (.t 4)), oG 53 51 (.load false 1 (.t 52)), oG 54 51 (.bin .eql (.t 53) (.c (.int .i64 3))), oT 55 (.pick (.t 51) (.t 54) (.c (.bool false))), oT 0 (.mov (.t 55))])
 (.ret))))) [.t 0]
/-- stockade/tree.Expr -/
def m19 : MFun := .code 8 (
 .seq (.reg [oT 2 (.new [(.int .i64 0), (.int .i64 0), (.str []), (.int .i64 0), (.int .i64 0), (.int .i64 0), (.int .i64 0), (.int .u64 0), .nilSlice]), oT 3 (.new [.nilIface, (.int .i64 0)])])
 (.seq (.reg [oT 4 (.mov (.t 0)), oT 5 (.call 37 [(.t 4), (.c (.func (.func 38) [] []))]), oT 6 (.ext (.t 5) 0), oT 7 (.ext (.t 5) 1), oN (.store 9 (.t 2) (.t 6)), oN (.store 2 (.t 3) (.t 7))])
 (.ret))) [.cell 2 true 9, .cell 3 true 2]
/-- stockade/token.Key -/
def m23 : MFun := .code 6 (
 .seq (.reg [oT 2 (.mov (.c (.bool false)))])
 (.seq (.reg [oT 3 (.bslice 1 [(.str []), (.str []), (.str []), (.str []), (.str []), (.str []), (.str []), (.str []), (.str []), (.str []), (.str []), (.str []), (.str []), (.str []), (.str []), (.str []), (.str []), (.str []), (.str []), (.str []), (.str []), (.str []), (.str [])] 23 [(0, 1, (.c (.str [97, 100, 100]))), (1, 1, (.c (.str [97, 116, 111, 109, 105, 99]))), (2, 1, (.c (.str [98, 111, 111, 108]))), (3, 1, (.c (.str [99, 104, 97, 110]))), (4, 1, (.c (.str [101, 108, 115, 101]))), (5, 1, (.c (.str [102, 97, 105, 108]))), (6, 1, (.c (.str [102, 97, 108, 115, 101]))), (7, 1, (.c (.str [102, 108, 111, 97, 116]))), (8, 1, (.c (.str [102, 117, 110, 99]))), (9, 1, (.c (.str [103, 101, 116]))), (10, 1, (.c (.str [103, 111]))), (11, 1, (.c (.str [105, 102]))), (12, 1, (.c (.str [105, 110, 116]))), (13, 1, (.c (.str [108, 111, 99, 107]))), (14, 1, (.c (.str [109, 117, 116, 101, 120]))), (15, 1, (.c (.str [112, 117, 116]))), (16, 1, (.c (.str [114, 101, 99, 118]))), (17, 1, (.c (.str [114, 101, 116, 117, 114, 110]))), (18, 1, (.c (.str [115, 101, 110, 100]))), (19, 1, (.c (.str [116, 114, 117, 101]))), (20, 1, (.c (.str [117, 110, 108, 111, 99, 107]))), (21, 1, (.c (.str [118, 97, 114]))), (22, 1, (.c (.str [119, 104, 105, 108, 101])))]), oT 4 (.mov (.t 0)), oT 5 (.call 45 [(.t 3), (.t 4)]), oT 2 (.mov (.t 5))])
 (.ret))) [.t 2]
/-- stockade/tree.Parse -/
def m30 : MFun := .code 8 (
 .seq (.reg [oT 2 (.new [(.int .i64 0), (.int .i64 0), (.str []), (.int .i64 0), (.int .i64 0), (.int .i64 0), (.int .i64 0), (.int .u64 0), .nilSlice]), oT 3 (.new [.nilIface, (.int .i64 0)])])
 (.seq (.reg [oT 4 (.mov (.t 0)), oT 5 (.call 37 [(.t 4), (.c (.func (.func 47) [] []))]), oT 6 (.ext (.t 5) 0), oT 7 (.ext (.t 5) 1), oN (.store 9 (.t 2) (.t 6)), oN (.store 2 (.t 3) (.t 7))])
 (.ret))) [.cell 2 true 9, .cell 3 true 2]
/-- stockade/stockadelaw06.placed -/
def m31 : MFun := .code 35 (
 .seq (.reg [oT 2 (.box (.t 0)), oT 4 (.mov (.c (.bool false)))])
 (.seq (.seq (.reg [oT 8 (.mov (.t 1)), oT 9 (.faddr 1 (.t 2)), oT 10 (.load false 1 (.t 9)), oT 11 (.lookup (.one .int) (.bool false) (.t 8) (.t 10) false), oT 12 (.un .not (.t 11))])
 (.cond (.t 12)
  (.seq (.reg [oT 4 (.mov (.c (.bool false)))])
  (.ret))
  (.skip)))
 (.seq (.reg [oT 13 (.faddr 1 (.t 2)), oT 14 (.load false 1 (.t 13)), oT 5 (.mov (.t 14))])
 (.seq (.seq (.reg [oT 15 (.faddr 8 (.t 2)), oT 16 (.load false 1 (.t 15)), oT 17 (.lenL (.t 16)), oT 18 (.mov (.c (.int .i64 0)))])
 (.block 0 (.loop (.seq (.reg [oT 19 (.bin .lss (.t 18) (.t 17))])
 (.seq (.cond (.t 19)
  (.skip)
  (.exit 0))
 (.seq (.block 1 (.seq (.reg [oT 20 (.iaddr 9 (.t 16) (.t 18)), oT 21 (.load true 9 (.t 20)), oT 7 (.new [(.int .i64 0), (.int .i64 0), (.str []), (.int .i64 0), (.int .i64 0), (.int .i64 0), (.int .i64 0), (.int .u64 0), .nilSlice]), oN (.store 9 (.t 7) (.t 21))])
 (.seq (.seq (.reg [oT 22 (.faddr 1 (.t 7)), oT 23 (.load false 1 (.t 22)), oT 24 (.mov (.t 5)), oT 25 (.bin .lss (.t 23) (.t 24)), oT 26 (.mov (.t 25)), oH 27 26 (.load true 9 (.t 7)), oH 28 26 (.mov (.t 1)), oH 29 26 (.call 31 [(.t 27), (.t 28)]), oH 30 26 (.un .not (.t 29)), oT 31 (.pick (.t 26) (.c (.bool true)) (.t 30))])
 (.cond (.t 31)
  (.seq (.reg [oT 4 (.mov (.c (.bool false)))])
  (.ret))
  (.skip)))
 (.reg [oT 32 (.faddr 1 (.t 7)), oT 33 (.load false 1 (.t 32)), oT 5 (.mov (.t 33))]))))
 (.reg [oT 34 (.bin .add (.t 18) (.c (.int .i64 1))), oT 18 (.mov (.t 34))])))))))
 (.seq (.reg [oT 4 (.mov (.c (.bool true)))])
 (.ret)))))) [.t 4]
/-- stockade/token.Tokens$1 -/
def m32 : MFun := .code 18 (
 .seq (.reg [oT 5 (.recover), oT 2 (.mov (.t 5))])
 (.seq (.reg [oT 6 (.mov (.t 2)), oT 7 (.eqv true (.one .iface) (.t 6) (.c .nilIface))])
 (.cond (.t 7)
  (.seq (.reg [oT 9 (.mov (.t 2)), oT 10 (.tassert 60 (.agg [.nilIface, (.int .i64 0)]) (.t 9)), oT 8 (.mov (.t 10)), oT 11 (.ext (.t 8) 0), oT 12 (.ext (.t 8) 1), oT 3 (.new [.nilIface, (.int .i64 0)]), oN (.store 2 (.t 3) (.t 11)), oT 4 (.mov (.t 12))])
  (.seq (.seq (.reg [oT 13 (.mov (.t 4)), oT 14 (.un .not (.t 13))])
  (.cond (.t 14)
   (.reg [oT 15 (.mov (.t 2)), oN (.panic (.t 15))])
   (.skip)))
  (.regD [oD 0 16 0 (.faddr 0 (.t 3)), oD 1 17 1 (.load true 2 (.t 16)), oE 2 0 (.store 1 (.t 0) (.c .nilSlice)), oE 3 7 (.store 2 (.t 1) (.t 17))])))
  (.skip)))) []
/-- (*stockade/token.reader).skip -/
def m33 : MFun := .code 27 (
 .block 0 (.loop (.block 1 (.seq (.reg [oT 3 (.mov (.t 0)), oT 4 (.nilck (.t 3)), oT 5 (.faddr 1 (.t 4)), oT 6 (.load false 1 (.t 5)), oT 2 (.mov (.t 6))])
 (.seq (.reg [oT 7 (.mov (.t 0)), oT 8 (.call 50 [(.t 7), (.c (.func (.func 51) [] []))])])
 (.seq (.seq (.regD [oD 0 9 0 (.mov (.t 0)), oD 1 10 1 (.nilck (.t 9)), oD 2 11 3 (.faddr 0 (.t 10)), oD 3 12 7 (.load false 1 (.t 11)), oD 4 13 0 (.mov (.t 0)), oD 5 14 16 (.nilck (.t 13)), oD 6 15 48 (.faddr 1 (.t 14)), oD 7 16 112 (.load false 1 (.t 15)), oD 8 17 255 (.sls (.t 12) (some (.t 16)) none), oD 9 18 511 (.call 52 [(.t 17), (.c (.str [47, 47]))])])
 (.cond (.t 18)
  (.reg [oT 19 (.mov (.t 0)), oT 20 (.call 50 [(.t 19), (.c (.func (.func 53) [] []))])])
  (.skip)))
 (.seq (.reg [oT 21 (.mov (.t 0)), oT 22 (.nilck (.t 21)), oT 23 (.faddr 1 (.t 22)), oT 24 (.load false 1 (.t 23)), oT 25 (.mov (.t 2)), oT 26 (.bin .eql (.t 24) (.t 25))])
 (.cond (.t 26)
  (.ret)
  (.skip))))))))) []
/-- (*stockade/token.reader).stop -/
def m34 : MFun := .code 11 (
 .reg [oT 6 (.mov (.t 1)), oT 7 (.mov (.t 2)), oT 8 (.build [.nilIface, (.int .i64 0)] [(0, 1, (.t 6)), (1, 1, (.t 7))]), oT 9 (.build [.nilIface, (.int .i64 0)] [(0, 2, (.t 8))]), oT 10 (.mkif 60 (.t 9)), oN (.panic (.t 10))]) []
/-- (*stockade/token.reader).next -/
def m35 : MFun := .code 28 (
 .seq (.reg [oT 2 (.new [(.int .i64 0), (.str []), (.int .i64 0), (.int .u64 0), (.int .i64 0)])])
 (.seq (.block 0 (.seq (.reg [oT 4 (.mov (.t 0)), oT 5 (.call 54 [(.t 4), (.c (.func (.func 55) [] []))]), oT 3 (.mov (.t 5))])
 (.cond (.t 3)
  (.seq (.reg [oT 6 (.mov (.t 0)), oT 7 (.call 56 [(.t 6)]), oN (.store 5 (.t 2) (.t 7))])
  (.ret))
  (.seq (.reg [oT 9 (.mov (.t 0)), oT 10 (.call 54 [(.t 9), (.c (.func (.func 57) [] []))]), oT 8 (.mov (.t 10))])
  (.cond (.t 8)
   (.seq (.reg [oT 11 (.mov (.t 0)), oT 12 (.call 58 [(.t 11)]), oN (.store 5 (.t 2) (.t 12))])
   (.ret))
   (.seq (.regD [oD 0 14 0 (.mov (.t 0)), oD 1 15 1 (.nilck (.t 14)), oD 2 16 3 (.faddr 0 (.t 15)), oD 3 17 7 (.load false 1 (.t 16)), oD 4 18 0 (.mov (.t 0)), oD 5 19 16 (.nilck (.t 18)), oD 6 20 48 (.faddr 1 (.t 19)), oD 7 21 112 (.load false 1 (.t 20)), oD 8 22 255 (.idxs (.t 17) (.t 21)), oD 9 23 511 (.bin .eql (.t 22) (.c (.int .u8 35))), oD 10 13 1023 (.mov (.t 23))])
   (.cond (.t 13)
    (.seq (.reg [oT 24 (.mov (.t 0)), oT 25 (.call 59 [(.t 24)]), oN (.store 5 (.t 2) (.t 25))])
    (.ret))
    (.skip))))))))
 (.seq (.reg [oT 26 (.mov (.t 0)), oT 27 (.call 60 [(.t 26)]), oN (.store 5 (.t 2) (.t 27))])
 (.ret)))) [.cell 2 true 5]
/-- stockade/tree.read -/
def m37 : MFun := .code 37 (
 .seq (.reg [oT 4 (.new [(.int .i64 0), (.int .i64 0), (.str []), (.int .i64 0), (.int .i64 0), (.int .i64 0), (.int .i64 0), (.int .u64 0), .nilSlice]), oT 5 (.new [.nilIface, (.int .i64 0)])])
 (.seq (.reg [oT 9 (.mov (.t 0)), oT 10 (.call 15 [(.t 9)]), oT 8 (.mov (.t 10)), oT 11 (.ext (.t 8) 0), oT 12 (.ext (.t 8) 1), oT 6 (.mov (.t 11)), oN (.store 2 (.t 5) (.t 12))])
 (.seq (.seq (.reg [oT 13 (.faddr 0 (.t 5)), oT 14 (.load false 1 (.t 13)), oT 15 (.eqv true (.one .iface) (.t 14) (.c .nilIface))])
 (.cond (.t 15)
  (.seq (.regD [oD 0 16 0 (.load true 9 (.t 4)), oD 1 17 0 (.load true 2 (.t 5)), oE 2 1 (.store 9 (.t 4) (.t 16)), oE 3 7 (.store 2 (.t 5) (.t 17))])
  (.ret))
  (.skip)))
 (.seq (.reg [oT 18 (.mkfn (.func 63) [] [(.t 4), (.t 5)]), oN (.defer (.t 18))])
 (.seq (.reg [oT 19 (.mov (.t 6)), oT 20 (.mov (.t 0)), oT 21 (.lenS (.t 20)), oT 22 (.build [.nilSlice, (.int .i64 0), (.int .i64 0)] [(0, 1, (.t 19)), (1, 1, (.t 21))]), oT 23 (.box (.t 22)), oT 7 (.mov (.t 23))])
 (.seq (.reg [oT 24 (.mov (.t 1)), oT 25 (.mov (.t 7)), oT 26 (.callv (.t 24) [(.t 25)]), oN (.store 9 (.t 4) (.t 26))])
 (.seq (.seq (.reg [oT 27 (.mov (.t 7)), oT 28 (.nilck (.t 27)), oT 29 (.faddr 0 (.t 28)), oT 30 (.load false 1 (.t 29)), oT 31 (.lenL (.t 30)), oT 32 (.bin .gtr (.t 31) (.c (.int .i64 0)))])
 (.cond (.t 32)
  (.reg [oT 33 (.mov (.t 7)), oT 34 (.call 64 [(.t 33)])])
  (.skip)))
 (.seq (.reg [oT 35 (.load true 9 (.t 4)), oT 36 (.build [.nilIface, (.int .i64 0)] []), oN (.store 9 (.t 4) (.t 35)), oN (.store 2 (.t 5) (.t 36))])
 (.ret))))))))) [.cell 4 true 9, .cell 5 true 2]
/-- (*stockade/tree.parser).expr -/
def m38 : MFun := .code 8 (
 .seq (.reg [oT 2 (.new [(.int .i64 0), (.int .i64 0), (.str []), (.int .i64 0), (.int .i64 0), (.int .i64 0), (.int .i64 0), (.int .u64 0), .nilSlice])])
 (.seq (.reg [oT 3 (.mov (.t 0)), oT 4 (.mov (.t 0)), oT 5 (.mkfn (.func 66) [(.t 4)] []), oT 6 (.bslice 1 [(.str [])] 1 [(0, 1, (.c (.str [124, 124])))]), oT 7 (.call 65 [(.t 3), (.t 5), (.c (.bool true)), (.t 6)]), oN (.store 9 (.t 2) (.t 7))])
 (.ret))) [.cell 2 true 9]
/-- slices.Contains[[]string,string] -/
def m45 : MFun := .code 9 (
 .seq (.reg [oT 4 (.mov (.c (.bool false)))])
 (.seq (.reg [oT 5 (.mov (.t 0)), oT 6 (.mov (.t 1)), oT 7 (.call 78 [(.t 5), (.t 6)]), oT 8 (.bin .geq (.t 7) (.c (.int .i64 0))), oT 4 (.mov (.t 8))])
 (.ret))) [.t 4]
/-- stockade/tree.Parse$1 -/
def m47 : MFun := .code 22 (
 .seq (.reg [oT 2 (.new [(.int .i64 0), (.int .i64 0), (.str []), (.int .i64 0), (.int .i64 0), (.int .i64 0), (.int .i64 0), (.int .u64 0), .nilSlice])])
 (.seq (.reg [oT 4 (.mov (.t 0)), oT 5 (.call 48 [(.t 4)]), oT 6 (.fld false 4 1 (.t 5)), oT 7 (.build [(.int .i64 0), (.int .i64 0), (.str []), (.int .i64 0), (.int .i64 0), (.int .i64 0), (.int .i64 0), (.int .u64 0), .nilSlice] [(0, 1, (.c (.int .i64 1))), (1, 1, (.t 6))]), oT 3 (.new [(.int .i64 0), (.int .i64 0), (.str []), (.int .i64 0), (.int .i64 0), (.int .i64 0), (.int .i64 0), (.int .u64 0), .nilSlice]), oN (.store 9 (.t 3) (.t 7))])
 (.seq (.block 0 (.loop (.seq (.seq (.reg [oT 8 (.mov (.t 0)), oT 9 (.nilck (.t 8)), oT 10 (.faddr 0 (.t 9)), oT 11 (.load false 1 (.t 10)), oT 12 (.lenL (.t 11)), oT 13 (.bin .gtr (.t 12) (.c (.int .i64 0)))])
 (.cond (.t 13)
  (.skip)
  (.exit 0)))
 (.block 1 (.regD [oD 0 14 0 (.faddr 8 (.t 3)), oD 1 15 1 (.load false 1 (.t 14)), oD 2 16 0 (.mov (.t 0)), oD 3 17 4 (.call 49 [(.t 16)]), oD 4 18 12 (.bslice 9 [(.int .i64 0), (.int .i64 0), (.str []), (.int .i64 0), (.int .i64 0), (.int .i64 0), (.int .i64 0), (.int .u64 0), .nilSlice] 1 [(0, 9, (.t 17))]), oD 5 19 31 (.append 9 96 (.t 15) (.t 18)), oD 6 20 63 (.faddr 8 (.t 3)), oE 7 127 (.store 1 (.t 20) (.t 19))])))))
 (.seq (.reg [oT 21 (.load true 9 (.t 3)), oN (.store 9 (.t 2) (.t 21))])
 (.ret))))) [.cell 2 true 9]
/-- (*stockade/tree.parser).here -/
def m48 : MFun := .code 20 (
 .seq (.reg [oT 2 (.new [(.int .i64 0), (.str []), (.int .i64 0), (.int .u64 0), (.int .i64 0)])])
 (.seq (.seq (.reg [oT 3 (.mov (.t 0)), oT 4 (.nilck (.t 3)), oT 5 (.faddr 0 (.t 4)), oT 6 (.load false 1 (.t 5)), oT 7 (.lenL (.t 6)), oT 8 (.bin .eql (.t 7) (.c (.int .i64 0)))])
 (.cond (.t 8)
  (.seq (.reg [oT 9 (.mov (.t 0)), oT 10 (.nilck (.t 9)), oT 11 (.faddr 1 (.t 10)), oT 12 (.load false 1 (.t 11)), oT 13 (.build [(.int .i64 0), (.str []), (.int .i64 0), (.int .u64 0), (.int .i64 0)] [(4, 1, (.t 12))]), oN (.store 5 (.t 2) (.t 13))])
  (.ret))
  (.skip)))
 (.seq (.reg [oT 14 (.mov (.t 0)), oT 15 (.nilck (.t 14)), oT 16 (.faddr 0 (.t 15)), oT 17 (.load false 1 (.t 16)), oT 18 (.iaddr 5 (.t 17) (.c (.int .i64 0))), oT 19 (.load true 5 (.t 18)), oN (.store 5 (.t 2) (.t 19))])
 (.ret)))) [.cell 2 true 5]
/-- (*stockade/tree.parser).decl -/
def m49 : MFun := .code 73 (
 .seq (.reg [oT 2 (.new [(.int .i64 0), (.int .i64 0), (.str []), (.int .i64 0), (.int .i64 0), (.int .i64 0), (.int .i64 0), (.int .u64 0), .nilSlice])])
 (.seq (.reg [oT 5 (.mov (.t 0)), oT 6 (.call 48 [(.t 5)]), oT 3 (.new [(.int .i64 0), (.str []), (.int .i64 0), (.int .u64 0), (.int .i64 0)]), oN (.store 5 (.t 3) (.t 6))])
 (.seq (.seq (.reg [oT 7 (.mov (.t 0)), oT 8 (.bslice 1 [(.str []), (.str []), (.str []), (.str []), (.str [])] 5 [(0, 1, (.c (.str [118, 97, 114]))), (1, 1, (.c (.str [109, 117, 116, 101, 120]))), (2, 1, (.c (.str [99, 104, 97, 110]))), (3, 1, (.c (.str [97, 116, 111, 109, 105, 99]))), (4, 1, (.c (.str [102, 117, 110, 99])))]), oT 9 (.call 79 [(.t 7), (.t 8)]), oT 10 (.un .not (.t 9))])
 (.cond (.t 10)
  (.reg [oT 11 (.mov (.t 0)), oT 12 (.call 64 [(.t 11)])])
  (.skip)))
 (.seq (.reg [oT 13 (.mov (.t 0)), oT 14 (.mov (.t 0)), oT 15 (.nilck (.t 14)), oT 16 (.faddr 0 (.t 15)), oT 17 (.load false 1 (.t 16)), oT 18 (.slc 5 (.t 17) (some (.c (.int .i64 1))) none none), oT 19 (.nilck (.t 13)), oT 20 (.faddr 0 (.t 19)), oN (.store 1 (.t 20) (.t 18))])
 (.seq (.regD [oD 6 4 0 (.new [(.int .i64 0), (.int .i64 0), (.str []), (.int .i64 0), (.int .i64 0), (.int .i64 0), (.int .i64 0), (.int .u64 0), .nilSlice]), oD 0 21 0 (.faddr 4 (.t 3)), oD 1 22 1 (.load false 1 (.t 21)), oD 2 23 0 (.mov (.t 0)), oD 3 24 4 (.call 80 [(.t 23), (.c (.int .i64 1))]), oD 4 25 12 (.fld false 1 1 (.t 24)), oD 5 26 31 (.build [(.int .i64 0), (.int .i64 0), (.str []), (.int .i64 0), (.int .i64 0), (.int .i64 0), (.int .i64 0), (.int .u64 0), .nilSlice] [(1, 1, (.t 22)), (2, 1, (.t 25))]), oE 7 127 (.store 9 (.t 4) (.t 26))])
 (.seq (.seq (.reg [oT 27 (.faddr 1 (.t 3)), oT 28 (.load false 1 (.t 27))])
 (.block 0 (.seq (.reg [oT 41 (.bin .eql (.t 28) (.c (.str [109, 117, 116, 101, 120]))), oT 40 (.mov (.t 41))])
 (.cond (.t 40)
  (.reg [oT 42 (.faddr 0 (.t 4)), oN (.store 1 (.t 42) (.c (.int .i64 4)))])
  (.seq (.reg [oT 44 (.bin .eql (.t 28) (.c (.str [97, 116, 111, 109, 105, 99]))), oT 43 (.mov (.t 44))])
  (.cond (.t 43)
   (.reg [oT 45 (.faddr 0 (.t 4)), oN (.store 1 (.t 45) (.c (.int .i64 6)))])
   (.seq (.reg [oT 47 (.bin .eql (.t 28) (.c (.str [99, 104, 97, 110]))), oT 46 (.mov (.t 47))])
   (.cond (.t 46)
    (.seq (.reg [oT 48 (.mov (.t 0)), oT 49 (.call 81 [(.t 48)]), oT 50 (.faddr 0 (.t 4)), oN (.store 1 (.t 50) (.c (.int .i64 5))), oT 51 (.faddr 4 (.t 4)), oN (.store 1 (.t 51) (.t 49))])
    (.reg [oT 52 (.mov (.t 0)), oT 53 (.call 82 [(.t 52)]), oT 54 (.faddr 3 (.t 4)), oN (.store 1 (.t 54) (.t 53))]))
    (.seq (.reg [oT 56 (.bin .eql (.t 28) (.c (.str [102, 117, 110, 99]))), oT 55 (.mov (.t 56))])
    (.cond (.t 55)
     (.seq (.reg [oT 57 (.faddr 0 (.t 4)), oN (.store 1 (.t 57) (.c (.int .i64 7)))])
     (.seq (.reg [oT 58 (.mov (.t 0)), oT 59 (.call 83 [(.t 58), (.t 4)])])
     (.seq (.regD [oD 5 65 0 (.bslice 9 [(.int .i64 0), (.int .i64 0), (.str []), (.int .i64 0), (.int .i64 0), (.int .i64 0), (.int .i64 0), (.int .u64 0), .nilSlice] 1 [(0, 9, (.c (.agg [(.int .i64 0), (.int .i64 0), (.str []), (.int .i64 0), (.int .i64 0), (.int .i64 0), (.int .i64 0), (.int .u64 0), .nilSlice])))]), oD 0 60 0 (.faddr 8 (.t 4)), oD 1 61 1 (.load false 1 (.t 60)), oD 2 62 0 (.mov (.t 0)), oD 3 63 4 (.call 84 [(.t 62)]), oD 4 64 3 (.lenL (.t 61)), oD 6 66 63 (.append 9 96 (.t 61) (.t 65)), oD 7 67 127 (.iaddr 9 (.t 66) (.t 64)), oE 8 255 (.store 9 (.t 67) (.t 63)), oD 9 68 127 (.faddr 8 (.t 4)), oE 10 639 (.store 1 (.t 68) (.t 66))])
     (.seq (.reg [oT 69 (.load true 9 (.t 4)), oN (.store 9 (.t 2) (.t 69))])
     (.ret)))))
     (.seq (.reg [oT 29 (.faddr 0 (.t 4)), oN (.store 1 (.t 29) (.c (.int .i64 2)))])
     (.seq (.seq (.reg [oT 30 (.mov (.t 0)), oT 31 (.bslice 1 [(.str [])] 1 [(0, 1, (.c (.str [91])))]), oT 32 (.call 79 [(.t 30), (.t 31)])])
     (.cond (.t 32)
      (.reg [oT 33 (.mov (.t 0)), oT 34 (.call 81 [(.t 33)]), oT 35 (.faddr 0 (.t 4)), oN (.store 1 (.t 35) (.c (.int .i64 3))), oT 36 (.faddr 4 (.t 4)), oN (.store 1 (.t 36) (.t 34))])
      (.skip)))
     (.reg [oT 37 (.mov (.t 0)), oT 38 (.call 82 [(.t 37)]), oT 39 (.faddr 3 (.t 4)), oN (.store 1 (.t 39) (.t 38))])))))))))))))
 (.seq (.reg [oT 70 (.mov (.t 0)), oT 71 (.call 85 [(.t 70), (.c (.str [59]))])])
 (.seq (.reg [oT 72 (.load true 9 (.t 4)), oN (.store 9 (.t 2) (.t 72))])
 (.ret))))))))) [.cell 2 true 9]
/-- (*stockade/token.reader).while -/
def m50 : MFun := .code 30 (
 .seq (.reg [oT 4 (.mov (.c (.str [])))])
 (.seq (.reg [oT 6 (.mov (.t 0)), oT 7 (.nilck (.t 6)), oT 8 (.faddr 1 (.t 7)), oT 9 (.load false 1 (.t 8)), oT 5 (.mov (.t 9))])
 (.seq (.block 0 (.loop (.seq (.seq (.reg [oT 10 (.mov (.t 0)), oT 11 (.mov (.t 1)), oT 12 (.call 54 [(.t 10), (.t 11)])])
 (.cond (.t 12)
  (.skip)
  (.exit 0)))
 (.block 1 (.reg [oT 13 (.mov (.t 0)), oT 14 (.nilck (.t 13)), oT 15 (.faddr 1 (.t 14)), oT 16 (.load false 1 (.t 15)), oT 17 (.bin .add (.t 16) (.c (.int .i64 1))), oT 18 (.nilck (.t 13)), oT 19 (.faddr 1 (.t 18)), oN (.store 1 (.t 19) (.t 17))])))))
 (.seq (.regD [oD 0 20 0 (.mov (.t 0)), oD 1 21 1 (.nilck (.t 20)), oD 2 22 3 (.faddr 0 (.t 21)), oD 3 23 7 (.load false 1 (.t 22)), oD 4 24 0 (.mov (.t 5)), oD 5 25 0 (.mov (.t 0)), oD 6 26 32 (.nilck (.t 25)), oD 7 27 96 (.faddr 1 (.t 26)), oD 8 28 224 (.load false 1 (.t 27)), oD 9 29 511 (.sls (.t 23) (some (.t 24)) (some (.t 28))), oD 10 4 1023 (.mov (.t 29))])
 (.ret))))) [.t 4]
/-- stockade/token.blank -/
def m51 : MFun := .code 17 (
 .seq (.reg [oT 2 (.mov (.c (.bool false)))])
 (.seq (.reg [oT 3 (.mov (.t 0)), oT 4 (.bin .eql (.t 3) (.c (.int .u8 32))), oT 5 (.mov (.t 4)), oH 6 5 (.mov (.t 0)), oH 7 5 (.bin .eql (.t 6) (.c (.int .u8 9))), oT 8 (.pick (.t 5) (.c (.bool true)) (.t 7)), oT 9 (.mov (.t 8)), oH 10 9 (.mov (.t 0)), oH 11 9 (.bin .eql (.t 10) (.c (.int .u8 10))), oT 12 (.pick (.t 9) (.c (.bool true)) (.t 11)), oT 13 (.mov (.t 12)), oH 14 13 (.mov (.t 0)), oH 15 13 (.bin .eql (.t 14) (.c (.int .u8 13))), oT 16 (.pick (.t 13) (.c (.bool true)) (.t 15)), oT 2 (.mov (.t 16))])
 (.ret))) [.t 2]
/-- strings.HasPrefix -/
def m52 : MFun := .code 8 (
 .seq (.reg [oT 4 (.mov (.c (.bool false)))])
 (.seq (.reg [oT 5 (.mov (.t 0)), oT 6 (.mov (.t 1)), oT 7 (.call 86 [(.t 5), (.t 6)]), oT 4 (.mov (.t 7))])
 (.ret))) [.t 4]
/-- (*stockade/token.reader).skip$1 -/
def m53 : MFun := .code 5 (
 .seq (.reg [oT 2 (.mov (.c (.bool false)))])
 (.seq (.reg [oT 3 (.mov (.t 0)), oT 4 (.bin .neq (.t 3) (.c (.int .u8 10))), oT 2 (.mov (.t 4))])
 (.ret))) [.t 2]
/-- (*stockade/token.reader).here -/
def m54 : MFun := .code 28 (
 .seq (.reg [oT 4 (.mov (.c (.bool false)))])
 (.seq (.regD [oD 0 5 0 (.mov (.t 0)), oD 1 6 1 (.nilck (.t 5)), oD 2 7 3 (.faddr 1 (.t 6)), oD 3 8 7 (.load false 1 (.t 7)), oD 4 9 0 (.mov (.t 0)), oD 5 10 16 (.nilck (.t 9)), oD 6 11 48 (.faddr 0 (.t 10)), oD 7 12 112 (.load false 1 (.t 11)), oD 8 13 240 (.lenS (.t 12)), oD 9 14 511 (.bin .lss (.t 8) (.t 13)), oD 10 15 1023 (.mov (.t 14)), (11, ⟨(some 16), .mov (.t 1), (some (15, true)), 2047⟩), (12, ⟨(some 17), .mov (.t 0), (some (15, true)), 2047⟩), (13, ⟨(some 18), .nilck (.t 17), (some (15, true)), 6143⟩), (14, ⟨(some 19), .faddr 0 (.t 18), (some (15, true)), 14335⟩), (15, ⟨(some 20), .load false 1 (.t 19), (some (15, true)), 30719⟩), (16, ⟨(some 21), .mov (.t 0), (some (15, true)), 2047⟩), (17, ⟨(some 22), .nilck (.t 21), (some (15, true)), 67583⟩), (18, ⟨(some 23), .faddr 1 (.t 22), (some (15, true)), 198655⟩), (19, ⟨(some 24), .load false 1 (.t 23), (some (15, true)), 460799⟩), (20, ⟨(some 25), .idxs (.t 20) (.t 24), (some (15, true)), 1046527⟩), (21, ⟨(some 26), .callv (.t 16) [(.t 25)], (some (15, true)), 2097151⟩), oD 22 27 4194303 (.pick (.t 15) (.t 26) (.c (.bool false))), oD 23 4 8388607 (.mov (.t 27))])
 (.ret))) [.t 4]
/-- stockade/token.letter -/
def m55 : MFun := .code 21 (
 .seq (.reg [oT 2 (.mov (.c (.bool false)))])
 (.seq (.reg [oT 3 (.mov (.t 0)), oT 4 (.bin .geq (.t 3) (.c (.int .u8 97))), oT 5 (.mov (.t 4)), oG 6 5 (.mov (.t 0)), oG 7 5 (.bin .leq (.t 6) (.c (.int .u8 122))), oT 8 (.pick (.t 5) (.t 7) (.c (.bool false))), oT 9 (.mov (.t 8)), oH 10 9 (.mov (.t 0)), oH 11 9 (.bin .geq (.t 10) (.c (.int .u8 65))), oH 12 9 (.mov (.t 11)), oG 13 12 (.mov (.t 0)), oG 14 12 (.bin .leq (.t 13) (.c (.int .u8 90))), oH 15 9 (.pick (.t 12) (.t 14) (.c (.bool false))), oT 16 (.pick (.t 9) (.c (.bool true)) (.t 15)), oT 17 (.mov (.t 16)), oH 18 17 (.mov (.t 0)), oH 19 17 (.bin .eql (.t 18) (.c (.int .u8 95))), oT 20 (.pick (.t 17) (.c (.bool true)) (.t 19)), oT 2 (.mov (.t 20))])
 (.ret))) [.t 2]
/-- (*stockade/token.reader).word -/
def m56 : MFun := .code 26 (
 .seq (.reg [oT 2 (.new [(.int .i64 0), (.str []), (.int .i64 0), (.int .u64 0), (.int .i64 0)])])
 (.seq (.reg [oT 4 (.mov (.t 0)), oT 5 (.nilck (.t 4)), oT 6 (.faddr 1 (.t 5)), oT 7 (.load false 1 (.t 6)), oT 8 (.build [(.int .i64 0), (.str []), (.int .i64 0), (.int .u64 0), (.int .i64 0)] [(0, 1, (.c (.int .i64 1))), (4, 1, (.t 7))]), oT 3 (.new [(.int .i64 0), (.str []), (.int .i64 0), (.int .u64 0), (.int .i64 0)]), oN (.store 5 (.t 3) (.t 8))])
 (.seq (.seq (.reg [oT 9 (.mov (.t 0)), oT 10 (.call 50 [(.t 9), (.c (.func (.func 87) [] []))]), oT 11 (.faddr 1 (.t 3)), oN (.store 1 (.t 11) (.t 10))])
 (.seq (.reg [oT 12 (.faddr 1 (.t 3)), oT 13 (.load false 1 (.t 12)), oT 14 (.lenS (.t 13)), oT 15 (.bin .gtr (.t 14) (.c (.int .i64 24)))])
 (.cond (.t 15)
  (.reg [oT 16 (.mov (.t 0)), oT 17 (.load false 1 (.c (.ptr 0 0))), oT 18 (.faddr 4 (.t 3)), oT 19 (.load false 1 (.t 18)), oT 20 (.call 34 [(.t 16), (.t 17), (.t 19)])])
  (.skip))))
 (.seq (.seq (.reg [oT 21 (.faddr 1 (.t 3)), oT 22 (.load false 1 (.t 21)), oT 23 (.call 23 [(.t 22)])])
 (.cond (.t 23)
  (.reg [oT 24 (.faddr 0 (.t 3)), oN (.store 1 (.t 24) (.c (.int .i64 2)))])
  (.skip)))
 (.seq (.reg [oT 25 (.load true 5 (.t 3)), oN (.store 5 (.t 2) (.t 25))])
 (.ret)))))) [.cell 2 true 5]
/-- stockade/token.digit -/
def m57 : MFun := .code 9 (
 .seq (.reg [oT 2 (.mov (.c (.bool false)))])
 (.seq (.reg [oT 3 (.mov (.t 0)), oT 4 (.bin .geq (.t 3) (.c (.int .u8 48))), oT 5 (.mov (.t 4)), oG 6 5 (.mov (.t 0)), oG 7 5 (.bin .leq (.t 6) (.c (.int .u8 57))), oT 8 (.pick (.t 5) (.t 7) (.c (.bool false))), oT 2 (.mov (.t 8))])
 (.ret))) [.t 2]
/-- (*stockade/token.reader).number -/
def m58 : MFun := .code 70 (
 .seq (.reg [oT 2 (.new [(.int .i64 0), (.str []), (.int .i64 0), (.int .u64 0), (.int .i64 0)])])
 (.seq (.reg [oT 7 (.mov (.t 0)), oT 8 (.nilck (.t 7)), oT 9 (.faddr 1 (.t 8)), oT 10 (.load false 1 (.t 9)), oT 11 (.build [(.int .i64 0), (.str []), (.int .i64 0), (.int .u64 0), (.int .i64 0)] [(0, 1, (.c (.int .i64 3))), (4, 1, (.t 10))]), oT 3 (.new [(.int .i64 0), (.str []), (.int .i64 0), (.int .u64 0), (.int .i64 0)]), oN (.store 5 (.t 3) (.t 11))])
 (.seq (.reg [oT 12 (.faddr 1 (.t 3)), oN (.store 1 (.t 12) (.c (.str [48])))])
 (.seq (.seq (.regD [oD 0 13 0 (.mov (.t 0)), oD 1 14 1 (.nilck (.t 13)), oD 2 15 3 (.faddr 0 (.t 14)), oD 3 16 7 (.load false 1 (.t 15)), oD 4 17 0 (.mov (.t 0)), oD 5 18 16 (.nilck (.t 17)), oD 6 19 48 (.faddr 1 (.t 18)), oD 7 20 112 (.load false 1 (.t 19)), oD 8 21 255 (.idxs (.t 16) (.t 20)), oD 9 22 511 (.bin .eql (.t 21) (.c (.int .u8 48)))])
 (.cond (.t 22)
  (.reg [oT 23 (.mov (.t 0)), oT 24 (.nilck (.t 23)), oT 25 (.faddr 1 (.t 24)), oT 26 (.load false 1 (.t 25)), oT 27 (.bin .add (.t 26) (.c (.int .i64 1))), oT 28 (.nilck (.t 23)), oT 29 (.faddr 1 (.t 28)), oN (.store 1 (.t 29) (.t 27))])
  (.reg [oT 30 (.mov (.t 0)), oT 31 (.call 50 [(.t 30), (.c (.func (.func 57) [] []))]), oT 32 (.faddr 1 (.t 3)), oN (.store 1 (.t 32) (.t 31))])))
 (.seq (.reg [oT 4 (.mov (.c (.bool false)))])
 (.seq (.seq (.reg [oT 33 (.faddr 1 (.t 3)), oT 34 (.load false 1 (.t 33)), oT 35 (.lenS (.t 34)), oT 36 (.mov (.c (.int .i64 0)))])
 (.block 0 (.loop (.seq (.reg [oT 37 (.bin .lss (.t 36) (.t 35))])
 (.seq (.cond (.t 37)
  (.skip)
  (.exit 0))
 (.seq (.block 1 (.seq (.reg [oT 38 (.mov (.t 36)), oT 5 (.mov (.t 38))])
 (.seq (.reg [oT 39 (.faddr 1 (.t 3)), oT 40 (.load false 1 (.t 39)), oT 41 (.mov (.t 5)), oT 42 (.idxs (.t 40) (.t 41)), oT 43 (.bin .sub (.t 42) (.c (.int .u8 48))), oT 44 (.cvi .i64 (.t 43)), oT 6 (.mov (.t 44))])
 (.seq (.reg [oT 45 (.mov (.t 4)), oT 46 (.mov (.t 45)), oH 47 46 (.faddr 2 (.t 3)), oH 48 46 (.load false 1 (.t 47)), oH 49 46 (.mov (.t 6)), oH 50 46 (.bin .sub (.c (.int .i64 9223372036854775807)) (.t 49)), oH 51 46 (.bin .quo (.t 50) (.c (.int .i64 10))), oH 52 46 (.bin .gtr (.t 48) (.t 51)), oT 53 (.pick (.t 46) (.c (.bool true)) (.t 52)), oT 4 (.mov (.t 53))])
 (.reg [oT 54 (.faddr 2 (.t 3)), oT 55 (.load false 1 (.t 54)), oT 56 (.bin .mul (.c (.int .i64 10)) (.t 55)), oT 57 (.mov (.t 6)), oT 58 (.bin .add (.t 56) (.t 57)), oT 59 (.faddr 2 (.t 3)), oN (.store 1 (.t 59) (.t 58))])))))
 (.reg [oT 60 (.bin .add (.t 36) (.c (.int .i64 1))), oT 36 (.mov (.t 60))])))))))
 (.seq (.seq (.reg [oT 61 (.mov (.t 4))])
 (.cond (.t 61)
  (.reg [oT 62 (.mov (.t 0)), oT 63 (.load false 1 (.c (.ptr 1 0))), oT 64 (.faddr 4 (.t 3)), oT 65 (.load false 1 (.t 64)), oT 66 (.call 34 [(.t 62), (.t 63), (.t 65)])])
  (.skip)))
 (.seq (.reg [oT 67 (.mov (.t 0)), oT 68 (.call 88 [(.t 67)])])
 (.seq (.reg [oT 69 (.load true 5 (.t 3)), oN (.store 5 (.t 2) (.t 69))])
 (.ret)))))))))) [.cell 2 true 5]
/-- (*stockade/token.reader).float -/
def m59 : MFun := .code 85 (
 .seq (.reg [oT 2 (.new [(.int .i64 0), (.str []), (.int .i64 0), (.int .u64 0), (.int .i64 0)])])
 (.seq (.reg [oT 4 (.mov (.t 0)), oT 5 (.nilck (.t 4)), oT 6 (.faddr 1 (.t 5)), oT 7 (.load false 1 (.t 6)), oT 8 (.build [(.int .i64 0), (.str []), (.int .i64 0), (.int .u64 0), (.int .i64 0)] [(0, 1, (.c (.int .i64 4))), (4, 1, (.t 7))]), oT 3 (.new [(.int .i64 0), (.str []), (.int .i64 0), (.int .u64 0), (.int .i64 0)]), oN (.store 5 (.t 3) (.t 8))])
 (.seq (.reg [oT 9 (.mov (.t 0)), oT 10 (.nilck (.t 9)), oT 11 (.faddr 1 (.t 10)), oT 12 (.load false 1 (.t 11)), oT 13 (.bin .add (.t 12) (.c (.int .i64 1))), oT 14 (.nilck (.t 9)), oT 15 (.faddr 1 (.t 14)), oN (.store 1 (.t 15) (.t 13))])
 (.seq (.seq (.reg [oT 16 (.mov (.c (.int .i64 0)))])
 (.block 0 (.loop (.seq (.reg [oT 17 (.bin .lss (.t 16) (.c (.int .i64 16)))])
 (.seq (.cond (.t 17)
  (.skip)
  (.exit 0))
 (.seq (.block 1 (.seq (.seq (.regD [oD 0 18 0 (.mov (.t 0)), oD 1 19 1 (.nilck (.t 18)), oD 2 20 3 (.faddr 1 (.t 19)), oD 3 21 7 (.load false 1 (.t 20)), oD 4 22 0 (.mov (.t 0)), oD 5 23 16 (.nilck (.t 22)), oD 6 24 48 (.faddr 0 (.t 23)), oD 7 25 112 (.load false 1 (.t 24)), oD 8 26 240 (.lenS (.t 25)), oD 9 27 511 (.bin .geq (.t 21) (.t 26)), oD 10 28 1023 (.mov (.t 27)), (11, ⟨(some 29), .mov (.t 0), (some (28, false)), 2047⟩), (12, ⟨(some 30), .nilck (.t 29), (some (28, false)), 4095⟩), (13, ⟨(some 31), .faddr 0 (.t 30), (some (28, false)), 8191⟩), (14, ⟨(some 32), .load false 1 (.t 31), (some (28, false)), 16383⟩), (15, ⟨(some 33), .mov (.t 0), (some (28, false)), 2047⟩), (16, ⟨(some 34), .nilck (.t 33), (some (28, false)), 34815⟩), (17, ⟨(some 35), .faddr 1 (.t 34), (some (28, false)), 100351⟩), (18, ⟨(some 36), .load false 1 (.t 35), (some (28, false)), 231423⟩), (19, ⟨(some 37), .idxs (.t 32) (.t 36), (some (28, false)), 524287⟩), (20, ⟨(some 38), .call 89 [(.c (.str [48, 49, 50, 51, 52, 53, 54, 55, 56, 57, 97, 98, 99, 100, 101, 102])), (.t 37)], (some (28, false)), 1048575⟩), (21, ⟨(some 39), .bin .lss (.t 38) (.c (.int .i64 0)), (some (28, false)), 2097151⟩), oD 22 40 4194303 (.pick (.t 28) (.c (.bool true)) (.t 39))])
 (.cond (.t 40)
  (.reg [oT 41 (.mov (.t 0)), oT 42 (.load false 1 (.c (.ptr 2 0))), oT 43 (.faddr 4 (.t 3)), oT 44 (.load false 1 (.t 43)), oT 45 (.call 34 [(.t 41), (.t 42), (.t 44)])])
  (.skip)))
 (.seq (.regD [oD 0 46 0 (.faddr 3 (.t 3)), oD 1 47 1 (.load false 1 (.t 46)), oD 2 48 3 (.bin .shl (.t 47) (.c (.int .u64 4))), oD 3 49 0 (.mov (.t 0)), oD 4 50 8 (.nilck (.t 49)), oD 5 51 24 (.faddr 0 (.t 50)), oD 6 52 56 (.load false 1 (.t 51)), oD 7 53 0 (.mov (.t 0)), oD 8 54 128 (.nilck (.t 53)), oD 9 55 384 (.faddr 1 (.t 54)), oD 10 56 896 (.load false 1 (.t 55)), oD 11 57 2040 (.idxs (.t 52) (.t 56)), oD 12 58 4088 (.call 89 [(.c (.str [48, 49, 50, 51, 52, 53, 54, 55, 56, 57, 97, 98, 99, 100, 101, 102])), (.t 57)]), oD 13 59 8184 (.cvi .u64 (.t 58)), oD 14 60 16383 (.bin .or (.t 48) (.t 59)), oD 15 61 32767 (.faddr 3 (.t 3)), oE 16 65535 (.store 1 (.t 61) (.t 60))])
 (.reg [oT 62 (.mov (.t 0)), oT 63 (.nilck (.t 62)), oT 64 (.faddr 1 (.t 63)), oT 65 (.load false 1 (.t 64)), oT 66 (.bin .add (.t 65) (.c (.int .i64 1))), oT 67 (.nilck (.t 62)), oT 68 (.faddr 1 (.t 67)), oN (.store 1 (.t 68) (.t 66))]))))
 (.reg [oT 69 (.bin .add (.t 16) (.c (.int .i64 1))), oT 16 (.mov (.t 69))])))))))
 (.seq (.reg [oT 70 (.mov (.t 0)), oT 71 (.call 88 [(.t 70)])])
 (.seq (.regD [oD 0 72 0 (.mov (.t 0)), oD 1 73 1 (.nilck (.t 72)), oD 2 74 3 (.faddr 0 (.t 73)), oD 3 75 7 (.load false 1 (.t 74)), oD 4 76 0 (.faddr 4 (.t 3)), oD 5 77 16 (.load false 1 (.t 76)), oD 6 78 0 (.mov (.t 0)), oD 7 79 64 (.nilck (.t 78)), oD 8 80 192 (.faddr 1 (.t 79)), oD 9 81 448 (.load false 1 (.t 80)), oD 10 82 1023 (.sls (.t 75) (some (.t 77)) (some (.t 81))), oD 11 83 2047 (.faddr 1 (.t 3)), oE 12 4095 (.store 1 (.t 83) (.t 82))])
 (.seq (.reg [oT 84 (.load true 5 (.t 3)), oN (.store 5 (.t 2) (.t 84))])
 (.ret)))))))) [.cell 2 true 5]
/-- (*stockade/token.reader).mark -/
def m60 : MFun := .code 80 (
 .seq (.reg [oT 2 (.new [(.int .i64 0), (.str []), (.int .i64 0), (.int .u64 0), (.int .i64 0)])])
 (.seq (.seq (.reg [oT 5 (.build [(.str []), (.str []), (.str []), (.str []), (.str []), (.str []), (.str [])] [(0, 1, (.c (.str [58, 61]))), (1, 1, (.c (.str [61, 61]))), (2, 1, (.c (.str [33, 61]))), (3, 1, (.c (.str [60, 61]))), (4, 1, (.c (.str [62, 61]))), (5, 1, (.c (.str [38, 38]))), (6, 1, (.c (.str [124, 124])))]), oT 6 (.mov (.c (.int .i64 0)))])
 (.block 0 (.loop (.seq (.reg [oT 7 (.bin .lss (.t 6) (.c (.int .i64 7)))])
 (.seq (.cond (.t 7)
  (.skip)
  (.exit 0))
 (.seq (.block 1 (.seq (.reg [oT 8 (.idxa false 7 1 (.t 5) (.t 6)), oT 4 (.mov (.t 8))])
 (.seq (.regD [oD 0 9 0 (.mov (.t 0)), oD 1 10 1 (.nilck (.t 9)), oD 2 11 3 (.faddr 0 (.t 10)), oD 3 12 7 (.load false 1 (.t 11)), oD 4 13 0 (.mov (.t 0)), oD 5 14 16 (.nilck (.t 13)), oD 6 15 48 (.faddr 1 (.t 14)), oD 7 16 112 (.load false 1 (.t 15)), oD 8 17 255 (.sls (.t 12) (some (.t 16)) none), oD 9 18 0 (.mov (.t 4)), oD 10 19 1023 (.call 52 [(.t 17), (.t 18)])])
 (.cond (.t 19)
  (.seq (.reg [oT 20 (.mov (.t 0)), oT 21 (.nilck (.t 20)), oT 22 (.faddr 1 (.t 21)), oT 23 (.load false 1 (.t 22)), oT 24 (.bin .add (.t 23) (.c (.int .i64 2))), oT 25 (.nilck (.t 20)), oT 26 (.faddr 1 (.t 25)), oN (.store 1 (.t 26) (.t 24))])
  (.seq (.reg [oT 27 (.mov (.t 4)), oT 28 (.mov (.t 0)), oT 29 (.nilck (.t 28)), oT 30 (.faddr 1 (.t 29)), oT 31 (.load false 1 (.t 30)), oT 32 (.bin .sub (.t 31) (.c (.int .i64 2))), oT 33 (.build [(.int .i64 0), (.str []), (.int .i64 0), (.int .u64 0), (.int .i64 0)] [(0, 1, (.c (.int .i64 5))), (1, 1, (.t 27)), (4, 1, (.t 32))]), oN (.store 5 (.t 2) (.t 33))])
  (.ret)))
  (.skip)))))
 (.reg [oT 34 (.bin .add (.t 6) (.c (.int .i64 1))), oT 6 (.mov (.t 34))])))))))
 (.seq (.seq (.regD [oD 0 35 0 (.mov (.t 0)), oD 1 36 1 (.nilck (.t 35)), oD 2 37 3 (.faddr 0 (.t 36)), oD 3 38 7 (.load false 1 (.t 37)), oD 4 39 0 (.mov (.t 0)), oD 5 40 16 (.nilck (.t 39)), oD 6 41 48 (.faddr 1 (.t 40)), oD 7 42 112 (.load false 1 (.t 41)), oD 8 43 255 (.idxs (.t 38) (.t 42)), oD 9 44 511 (.call 89 [(.c (.str [43, 45, 42, 47, 37, 60, 62, 61, 33, 40, 41, 123, 125, 91, 93, 44, 59])), (.t 43)]), oD 10 45 1023 (.bin .lss (.t 44) (.c (.int .i64 0)))])
 (.cond (.t 45)
  (.regD [oD 0 46 0 (.mov (.t 0)), oD 1 47 0 (.load false 1 (.c (.ptr 2 0))), oD 2 48 0 (.mov (.t 0)), oD 3 49 4 (.nilck (.t 48)), oD 4 50 12 (.faddr 1 (.t 49)), oD 5 51 28 (.load false 1 (.t 50)), oD 6 52 63 (.call 34 [(.t 46), (.t 47), (.t 51)])])
  (.skip)))
 (.seq (.reg [oT 53 (.mov (.t 0)), oT 54 (.nilck (.t 53)), oT 55 (.faddr 1 (.t 54)), oT 56 (.load false 1 (.t 55)), oT 57 (.bin .add (.t 56) (.c (.int .i64 1))), oT 58 (.nilck (.t 53)), oT 59 (.faddr 1 (.t 58)), oN (.store 1 (.t 59) (.t 57))])
 (.seq (.regD [oD 0 60 0 (.mov (.t 0)), oD 1 61 1 (.nilck (.t 60)), oD 2 62 3 (.faddr 0 (.t 61)), oD 3 63 7 (.load false 1 (.t 62)), oD 4 64 0 (.mov (.t 0)), oD 5 65 16 (.nilck (.t 64)), oD 6 66 48 (.faddr 1 (.t 65)), oD 7 67 112 (.load false 1 (.t 66)), oD 8 68 240 (.bin .sub (.t 67) (.c (.int .i64 1))), oD 9 69 0 (.mov (.t 0)), oD 10 70 512 (.nilck (.t 69)), oD 11 71 1536 (.faddr 1 (.t 70)), oD 12 72 3584 (.load false 1 (.t 71)), oD 13 73 8191 (.sls (.t 63) (some (.t 68)) (some (.t 72))), oD 14 74 0 (.mov (.t 0)), oD 15 75 16384 (.nilck (.t 74)), oD 16 76 49152 (.faddr 1 (.t 75)), oD 17 77 114688 (.load false 1 (.t 76)), oD 18 78 245760 (.bin .sub (.t 77) (.c (.int .i64 1))), oD 19 79 524287 (.build [(.int .i64 0), (.str []), (.int .i64 0), (.int .u64 0), (.int .i64 0)] [(0, 1, (.c (.int .i64 5))), (1, 1, (.t 73)), (4, 1, (.t 78))]), oE 20 1048575 (.store 5 (.t 2) (.t 79))])
 (.ret)))))) [.cell 2 true 5]
/-- stockade/tree.read$1 -/
def m63 : MFun := .code 19 (
 .seq (.reg [oT 5 (.recover), oT 2 (.mov (.t 5))])
 (.seq (.reg [oT 6 (.mov (.t 2)), oT 7 (.eqv true (.one .iface) (.t 6) (.c .nilIface))])
 (.cond (.t 7)
  (.seq (.reg [oT 9 (.mov (.t 2)), oT 10 (.tassert 95 (.agg [.nilIface, (.int .i64 0)]) (.t 9)), oT 8 (.mov (.t 10)), oT 11 (.ext (.t 8) 0), oT 12 (.ext (.t 8) 1), oT 3 (.new [.nilIface, (.int .i64 0)]), oN (.store 2 (.t 3) (.t 11)), oT 4 (.mov (.t 12))])
  (.seq (.seq (.reg [oT 13 (.mov (.t 4)), oT 14 (.un .not (.t 13))])
  (.cond (.t 14)
   (.reg [oT 15 (.mov (.t 2)), oN (.panic (.t 15))])
   (.skip)))
  (.regD [oD 0 16 0 (.build [(.int .i64 0), (.int .i64 0), (.str []), (.int .i64 0), (.int .i64 0), (.int .i64 0), (.int .i64 0), (.int .u64 0), .nilSlice] []), oD 1 17 0 (.faddr 0 (.t 3)), oD 2 18 2 (.load true 2 (.t 17)), oE 3 1 (.store 9 (.t 0) (.t 16)), oE 4 15 (.store 2 (.t 1) (.t 18))])))
  (.skip)))) []
/-- (*stockade/tree.parser).wrong -/
def m64 : MFun := .code 9 (
 .regD [oD 0 2 0 (.load false 1 (.c (.ptr 2 0))), oD 1 3 0 (.mov (.t 0)), oD 2 4 2 (.call 48 [(.t 3)]), oD 3 5 6 (.fld false 4 1 (.t 4)), oD 4 6 15 (.build [.nilIface, (.int .i64 0)] [(0, 1, (.t 2)), (1, 1, (.t 5))]), oD 5 7 31 (.build [.nilIface, (.int .i64 0)] [(0, 2, (.t 6))]), oD 6 8 63 (.mkif 95 (.t 7)), oE 7 127 (.panic (.t 8))]) []
/-- (*stockade/tree.parser).row -/
def m65 : MFun := .code 38 (
 .seq (.reg [oT 8 (.new [(.int .i64 0), (.int .i64 0), (.str []), (.int .i64 0), (.int .i64 0), (.int .i64 0), (.int .i64 0), (.int .u64 0), .nilSlice])])
 (.seq (.reg [oT 11 (.mov (.t 1)), oT 12 (.callv (.t 11) []), oT 9 (.new [(.int .i64 0), (.int .i64 0), (.str []), (.int .i64 0), (.int .i64 0), (.int .i64 0), (.int .i64 0), (.int .u64 0), .nilSlice]), oN (.store 9 (.t 9) (.t 12))])
 (.seq (.block 0 (.loop (.seq (.seq (.reg [oT 13 (.mov (.t 0)), oT 14 (.mov (.t 3)), oT 15 (.call 79 [(.t 13), (.t 14)])])
 (.cond (.t 15)
  (.skip)
  (.exit 0)))
 (.block 1 (.seq (.reg [oT 16 (.mov (.t 0)), oT 17 (.call 48 [(.t 16)]), oT 18 (.fld false 1 1 (.t 17)), oT 10 (.mov (.t 18))])
 (.seq (.reg [oT 19 (.mov (.t 0)), oT 20 (.mov (.t 0)), oT 21 (.nilck (.t 20)), oT 22 (.faddr 0 (.t 21)), oT 23 (.load false 1 (.t 22)), oT 24 (.slc 5 (.t 23) (some (.c (.int .i64 1))) none none), oT 25 (.nilck (.t 19)), oT 26 (.faddr 0 (.t 25)), oN (.store 1 (.t 26) (.t 24))])
 (.seq (.regD [oD 0 27 0 (.faddr 1 (.t 9)), oD 1 28 1 (.load false 1 (.t 27)), oD 2 29 0 (.mov (.t 10)), oD 3 30 0 (.load true 9 (.t 9)), oD 4 31 0 (.mov (.t 1)), oD 5 32 16 (.callv (.t 31) []), oD 6 33 56 (.bslice 9 [(.int .i64 0), (.int .i64 0), (.str []), (.int .i64 0), (.int .i64 0), (.int .i64 0), (.int .i64 0), (.int .u64 0), .nilSlice, (.int .i64 0), (.int .i64 0), (.str []), (.int .i64 0), (.int .i64 0), (.int .i64 0), (.int .i64 0), (.int .u64 0), .nilSlice] 2 [(0, 9, (.t 30)), (9, 9, (.t 32))]), oD 7 34 127 (.build [(.int .i64 0), (.int .i64 0), (.str []), (.int .i64 0), (.int .i64 0), (.int .i64 0), (.int .i64 0), (.int .u64 0), .nilSlice] [(0, 1, (.c (.int .i64 31))), (1, 1, (.t 28)), (2, 1, (.t 29)), (8, 1, (.t 33))]), oE 8 255 (.store 9 (.t 9) (.t 34))])
 (.seq (.reg [oT 35 (.mov (.t 2)), oT 36 (.un .not (.t 35))])
 (.cond (.t 36)
  (.exit 0)
  (.skip))))))))))
 (.seq (.reg [oT 37 (.load true 9 (.t 9)), oN (.store 9 (.t 8) (.t 37))])
 (.ret))))) [.cell 8 true 9]
/-- (*stockade/tree.parser).and -/
def m66 : MFun := .code 8 (
 .seq (.reg [oT 2 (.new [(.int .i64 0), (.int .i64 0), (.str []), (.int .i64 0), (.int .i64 0), (.int .i64 0), (.int .i64 0), (.int .u64 0), .nilSlice])])
 (.seq (.reg [oT 3 (.mov (.t 0)), oT 4 (.mov (.t 0)), oT 5 (.mkfn (.func 90) [(.t 4)] []), oT 6 (.bslice 1 [(.str [])] 1 [(0, 1, (.c (.str [38, 38])))]), oT 7 (.call 65 [(.t 3), (.t 5), (.c (.bool true)), (.t 6)]), oN (.store 9 (.t 2) (.t 7))])
 (.ret))) [.cell 2 true 9]
/-- slices.Index[[]string,string] -/
def m78 : MFun := .code 19 (
 .seq (.reg [oT 4 (.mov (.c (.int .i64 0)))])
 (.seq (.seq (.reg [oT 6 (.mov (.t 0)), oT 7 (.lenL (.t 6)), oT 8 (.mov (.c (.int .i64 0)))])
 (.block 0 (.loop (.seq (.reg [oT 9 (.bin .lss (.t 8) (.t 7))])
 (.seq (.cond (.t 9)
  (.skip)
  (.exit 0))
 (.seq (.block 1 (.seq (.reg [oT 10 (.mov (.t 8)), oT 5 (.mov (.t 10))])
 (.seq (.reg [oT 11 (.mov (.t 1)), oT 12 (.mov (.t 0)), oT 13 (.mov (.t 5)), oT 14 (.iaddr 1 (.t 12) (.t 13)), oT 15 (.load false 1 (.t 14)), oT 16 (.bin .eql (.t 11) (.t 15))])
 (.cond (.t 16)
  (.seq (.reg [oT 17 (.mov (.t 5)), oT 4 (.mov (.t 17))])
  (.ret))
  (.skip)))))
 (.reg [oT 18 (.bin .add (.t 8) (.c (.int .i64 1))), oT 8 (.mov (.t 18))])))))))
 (.seq (.reg [oT 4 (.mov (.c (.int .i64 (-1))))])
 (.ret)))) [.t 4]
/-- (*stockade/tree.parser).is -/
def m79 : MFun := .code 22 (
 .seq (.reg [oT 4 (.mov (.c (.bool false)))])
 (.seq (.reg [oT 6 (.mov (.t 0)), oT 7 (.call 48 [(.t 6)]), oT 5 (.new [(.int .i64 0), (.str []), (.int .i64 0), (.int .u64 0), (.int .i64 0)]), oN (.store 5 (.t 5) (.t 7))])
 (.seq (.reg [oT 8 (.faddr 0 (.t 5)), oT 9 (.load false 1 (.t 8)), oT 10 (.bin .eql (.t 9) (.c (.int .i64 2))), oT 11 (.mov (.t 10)), oH 12 11 (.faddr 0 (.t 5)), oH 13 11 (.load false 1 (.t 12)), oH 14 11 (.bin .eql (.t 13) (.c (.int .i64 5))), oT 15 (.pick (.t 11) (.c (.bool true)) (.t 14)), oT 16 (.mov (.t 15)), oG 17 16 (.mov (.t 1)), oG 18 16 (.faddr 1 (.t 5)), oG 19 16 (.load false 1 (.t 18)), oG 20 16 (.call 45 [(.t 17), (.t 19)]), oT 21 (.pick (.t 16) (.t 20) (.c (.bool false))), oT 4 (.mov (.t 21))])
 (.ret)))) [.t 4]
/-- (*stockade/tree.parser).take -/
def m80 : MFun := .code 23 (
 .seq (.reg [oT 4 (.new [(.int .i64 0), (.str []), (.int .i64 0), (.int .u64 0), (.int .i64 0)])])
 (.seq (.reg [oT 6 (.mov (.t 0)), oT 7 (.call 48 [(.t 6)]), oT 5 (.new [(.int .i64 0), (.str []), (.int .i64 0), (.int .u64 0), (.int .i64 0)]), oN (.store 5 (.t 5) (.t 7))])
 (.seq (.seq (.reg [oT 8 (.faddr 0 (.t 5)), oT 9 (.load false 1 (.t 8)), oT 10 (.mov (.t 1)), oT 11 (.bin .neq (.t 9) (.t 10))])
 (.cond (.t 11)
  (.reg [oT 12 (.mov (.t 0)), oT 13 (.call 64 [(.t 12)])])
  (.skip)))
 (.seq (.reg [oT 14 (.mov (.t 0)), oT 15 (.mov (.t 0)), oT 16 (.nilck (.t 15)), oT 17 (.faddr 0 (.t 16)), oT 18 (.load false 1 (.t 17)), oT 19 (.slc 5 (.t 18) (some (.c (.int .i64 1))) none none), oT 20 (.nilck (.t 14)), oT 21 (.faddr 0 (.t 20)), oN (.store 1 (.t 21) (.t 19))])
 (.seq (.reg [oT 22 (.load true 5 (.t 5)), oN (.store 5 (.t 4) (.t 22))])
 (.ret)))))) [.cell 4 true 5]
/-- (*stockade/tree.parser).sized -/
def m81 : MFun := .code 12 (
 .seq (.reg [oT 2 (.mov (.c (.int .i64 0)))])
 (.seq (.reg [oT 4 (.mov (.t 0)), oT 5 (.call 85 [(.t 4), (.c (.str [91]))])])
 (.seq (.reg [oT 6 (.mov (.t 0)), oT 7 (.call 80 [(.t 6), (.c (.int .i64 3))]), oT 8 (.fld false 2 1 (.t 7)), oT 3 (.mov (.t 8))])
 (.seq (.reg [oT 9 (.mov (.t 0)), oT 10 (.call 85 [(.t 9), (.c (.str [93]))])])
 (.seq (.reg [oT 11 (.mov (.t 3)), oT 2 (.mov (.t 11))])
 (.ret)))))) [.t 2]
/-- (*stockade/tree.parser).typ -/
def m82 : MFun := .code 29 (
 .seq (.reg [oT 2 (.mov (.c (.int .i64 0)))])
 (.seq (.reg [oT 4 (.bslice 1 [(.str []), (.str []), (.str [])] 3 [(0, 1, (.c (.str [105, 110, 116]))), (1, 1, (.c (.str [102, 108, 111, 97, 116]))), (2, 1, (.c (.str [98, 111, 111, 108])))]), oT 5 (.mov (.t 0)), oT 6 (.call 48 [(.t 5)]), oT 7 (.fld false 1 1 (.t 6)), oT 8 (.call 78 [(.t 4), (.t 7)]), oT 3 (.mov (.t 8))])
 (.seq (.seq (.reg [oT 9 (.mov (.t 0)), oT 10 (.call 48 [(.t 9)]), oT 11 (.fld false 0 1 (.t 10)), oT 12 (.bin .neq (.t 11) (.c (.int .i64 2))), oT 13 (.mov (.t 12)), oH 14 13 (.mov (.t 3)), oH 15 13 (.bin .lss (.t 14) (.c (.int .i64 0))), oT 16 (.pick (.t 13) (.c (.bool true)) (.t 15))])
 (.cond (.t 16)
  (.reg [oT 17 (.mov (.t 0)), oT 18 (.call 64 [(.t 17)])])
  (.skip)))
 (.seq (.reg [oT 19 (.mov (.t 0)), oT 20 (.mov (.t 0)), oT 21 (.nilck (.t 20)), oT 22 (.faddr 0 (.t 21)), oT 23 (.load false 1 (.t 22)), oT 24 (.slc 5 (.t 23) (some (.c (.int .i64 1))) none none), oT 25 (.nilck (.t 19)), oT 26 (.faddr 0 (.t 25)), oN (.store 1 (.t 26) (.t 24))])
 (.seq (.reg [oT 27 (.mov (.t 3)), oT 28 (.bin .add (.c (.int .i64 1)) (.t 27)), oT 2 (.mov (.t 28))])
 (.ret)))))) [.t 2]
/-- (*stockade/tree.parser).params -/
def m83 : MFun := .code 43 (
 .seq (.reg [oT 6 (.mov (.t 0)), oT 7 (.call 85 [(.t 6), (.c (.str [40]))])])
 (.seq (.seq (.reg [oT 8 (.mov (.t 0)), oT 9 (.bslice 1 [(.str [])] 1 [(0, 1, (.c (.str [41])))]), oT 10 (.call 79 [(.t 8), (.t 9)]), oT 11 (.un .not (.t 10)), oT 4 (.mov (.t 11))])
 (.block 0 (.loop (.seq (.seq (.reg [oT 12 (.mov (.t 4))])
 (.cond (.t 12)
  (.skip)
  (.exit 0)))
 (.seq (.block 1 (.seq (.reg [oT 15 (.mov (.t 0)), oT 16 (.call 80 [(.t 15), (.c (.int .i64 1))]), oT 5 (.new [(.int .i64 0), (.str []), (.int .i64 0), (.int .u64 0), (.int .i64 0)]), oN (.store 5 (.t 5) (.t 16))])
 (.seq (.regD [oD 12 29 0 (.bslice 9 [(.int .i64 0), (.int .i64 0), (.str []), (.int .i64 0), (.int .i64 0), (.int .i64 0), (.int .i64 0), (.int .u64 0), .nilSlice] 1 [(0, 9, (.c (.agg [(.int .i64 0), (.int .i64 0), (.str []), (.int .i64 0), (.int .i64 0), (.int .i64 0), (.int .i64 0), (.int .u64 0), .nilSlice])))]), oD 0 17 0 (.mov (.t 1)), oD 1 18 1 (.nilck (.t 17)), oD 2 19 3 (.faddr 8 (.t 18)), oD 3 20 7 (.load false 1 (.t 19)), oD 4 21 0 (.faddr 4 (.t 5)), oD 5 22 16 (.load false 1 (.t 21)), oD 6 23 0 (.faddr 1 (.t 5)), oD 7 24 64 (.load false 1 (.t 23)), oD 8 25 0 (.mov (.t 0)), oD 9 26 256 (.call 82 [(.t 25)]), oD 10 27 1008 (.build [(.int .i64 0), (.int .i64 0), (.str []), (.int .i64 0), (.int .i64 0), (.int .i64 0), (.int .i64 0), (.int .u64 0), .nilSlice] [(0, 1, (.c (.int .i64 8))), (1, 1, (.t 22)), (2, 1, (.t 24)), (3, 1, (.t 26))]), oD 11 28 15 (.lenL (.t 20)), oD 13 30 8191 (.append 9 96 (.t 20) (.t 29)), oD 14 31 16383 (.iaddr 9 (.t 30) (.t 28)), oE 15 32767 (.store 9 (.t 31) (.t 27)), oD 16 32 16383 (.nilck (.t 17)), oD 17 33 81919 (.faddr 8 (.t 32)), oE 18 212991 (.store 1 (.t 33) (.t 30))])
 (.reg [oT 34 (.mov (.t 1)), oT 35 (.nilck (.t 34)), oT 36 (.faddr 4 (.t 35)), oT 37 (.load false 1 (.t 36)), oT 38 (.bin .add (.t 37) (.c (.int .i64 1))), oT 39 (.nilck (.t 34)), oT 40 (.faddr 4 (.t 39)), oN (.store 1 (.t 40) (.t 38))]))))
 (.reg [oT 13 (.mov (.t 0)), oT 14 (.call 101 [(.t 13), (.c (.str [44]))]), oT 4 (.mov (.t 14))]))))))
 (.reg [oT 41 (.mov (.t 0)), oT 42 (.call 85 [(.t 41), (.c (.str [41]))])]))) []
/-- (*stockade/tree.parser).block -/
def m84 : MFun := .code 22 (
 .seq (.reg [oT 2 (.new [(.int .i64 0), (.int .i64 0), (.str []), (.int .i64 0), (.int .i64 0), (.int .i64 0), (.int .i64 0), (.int .u64 0), .nilSlice])])
 (.seq (.reg [oT 4 (.mov (.t 0)), oT 5 (.call 102 [(.t 4), (.c (.str [123]))]), oT 6 (.fld false 4 1 (.t 5)), oT 7 (.build [(.int .i64 0), (.int .i64 0), (.str []), (.int .i64 0), (.int .i64 0), (.int .i64 0), (.int .i64 0), (.int .u64 0), .nilSlice] [(0, 1, (.c (.int .i64 9))), (1, 1, (.t 6))]), oT 3 (.new [(.int .i64 0), (.int .i64 0), (.str []), (.int .i64 0), (.int .i64 0), (.int .i64 0), (.int .i64 0), (.int .u64 0), .nilSlice]), oN (.store 9 (.t 3) (.t 7))])
 (.seq (.block 0 (.loop (.seq (.seq (.reg [oT 8 (.mov (.t 0)), oT 9 (.bslice 1 [(.str [])] 1 [(0, 1, (.c (.str [125])))]), oT 10 (.call 79 [(.t 8), (.t 9)]), oT 11 (.un .not (.t 10))])
 (.cond (.t 11)
  (.skip)
  (.exit 0)))
 (.block 1 (.regD [oD 0 12 0 (.faddr 8 (.t 3)), oD 1 13 1 (.load false 1 (.t 12)), oD 2 14 0 (.mov (.t 0)), oD 3 15 4 (.call 103 [(.t 14)]), oD 4 16 12 (.bslice 9 [(.int .i64 0), (.int .i64 0), (.str []), (.int .i64 0), (.int .i64 0), (.int .i64 0), (.int .i64 0), (.int .u64 0), .nilSlice] 1 [(0, 9, (.t 15))]), oD 5 17 31 (.append 9 96 (.t 13) (.t 16)), oD 6 18 63 (.faddr 8 (.t 3)), oE 7 127 (.store 1 (.t 18) (.t 17))])))))
 (.seq (.reg [oT 19 (.mov (.t 0)), oT 20 (.call 104 [(.t 19), (.c (.str [125]))])])
 (.seq (.reg [oT 21 (.load true 9 (.t 3)), oN (.store 9 (.t 2) (.t 21))])
 (.ret)))))) [.cell 2 true 9]
/-- (*stockade/tree.parser).must -/
def m85 : MFun := .code 24 (
 .seq (.reg [oT 4 (.new [(.int .i64 0), (.str []), (.int .i64 0), (.int .u64 0), (.int .i64 0)])])
 (.seq (.seq (.reg [oT 6 (.mov (.t 0)), oT 7 (.mov (.t 1)), oT 8 (.bslice 1 [(.str [])] 1 [(0, 1, (.t 7))]), oT 9 (.call 79 [(.t 6), (.t 8)]), oT 10 (.un .not (.t 9))])
 (.cond (.t 10)
  (.reg [oT 11 (.mov (.t 0)), oT 12 (.call 64 [(.t 11)])])
  (.skip)))
 (.seq (.reg [oT 13 (.mov (.t 0)), oT 14 (.call 48 [(.t 13)]), oT 5 (.new [(.int .i64 0), (.str []), (.int .i64 0), (.int .u64 0), (.int .i64 0)]), oN (.store 5 (.t 5) (.t 14))])
 (.seq (.reg [oT 15 (.mov (.t 0)), oT 16 (.mov (.t 0)), oT 17 (.nilck (.t 16)), oT 18 (.faddr 0 (.t 17)), oT 19 (.load false 1 (.t 18)), oT 20 (.slc 5 (.t 19) (some (.c (.int .i64 1))) none none), oT 21 (.nilck (.t 15)), oT 22 (.faddr 0 (.t 21)), oN (.store 1 (.t 22) (.t 20))])
 (.seq (.reg [oT 23 (.load true 5 (.t 5)), oN (.store 5 (.t 4) (.t 23))])
 (.ret)))))) [.cell 4 true 5]
/-- internal/stringslite.HasPrefix -/
def m86 : MFun := .code 18 (
 .seq (.reg [oT 4 (.mov (.c (.bool false)))])
 (.seq (.reg [oT 5 (.mov (.t 0)), oT 6 (.lenS (.t 5)), oT 7 (.mov (.t 1)), oT 8 (.lenS (.t 7)), oT 9 (.bin .geq (.t 6) (.t 8)), oT 10 (.mov (.t 9)), oG 11 10 (.mov (.t 0)), oG 12 10 (.mov (.t 1)), oG 13 10 (.lenS (.t 12)), oG 14 10 (.sls (.t 11) none (some (.t 13))), oG 15 10 (.mov (.t 1)), oG 16 10 (.bin .eql (.t 14) (.t 15)), oT 17 (.pick (.t 10) (.t 16) (.c (.bool false))), oT 4 (.mov (.t 17))])
 (.ret))) [.t 4]
/-- stockade/token.inWord -/
def m87 : MFun := .code 9 (
 .seq (.reg [oT 2 (.mov (.c (.bool false)))])
 (.seq (.reg [oT 3 (.mov (.t 0)), oT 4 (.call 55 [(.t 3)]), oT 5 (.mov (.t 4)), oH 6 5 (.mov (.t 0)), oH 7 5 (.call 57 [(.t 6)]), oT 8 (.pick (.t 5) (.c (.bool true)) (.t 7)), oT 2 (.mov (.t 8))])
 (.ret))) [.t 2]
/-- (*stockade/token.reader).alone -/
def m88 : MFun := .code 11 (
 .seq (.reg [oT 2 (.mov (.t 0)), oT 3 (.call 54 [(.t 2), (.c (.func (.func 87) [] []))])])
 (.cond (.t 3)
  (.regD [oD 0 4 0 (.mov (.t 0)), oD 1 5 0 (.load false 1 (.c (.ptr 2 0))), oD 2 6 0 (.mov (.t 0)), oD 3 7 4 (.nilck (.t 6)), oD 4 8 12 (.faddr 1 (.t 7)), oD 5 9 28 (.load false 1 (.t 8)), oD 6 10 63 (.call 34 [(.t 4), (.t 5), (.t 9)])])
  (.skip))) []
/-- strings.IndexByte -/
def m89 : MFun := .code 8 (
 .seq (.reg [oT 4 (.mov (.c (.int .i64 0)))])
 (.seq (.reg [oT 5 (.mov (.t 0)), oT 6 (.mov (.t 1)), oT 7 (.call 105 [(.t 5), (.t 6)]), oT 4 (.mov (.t 7))])
 (.ret))) [.t 4]
/-- (*stockade/tree.parser).cmp -/
def m90 : MFun := .code 8 (
 .seq (.reg [oT 2 (.new [(.int .i64 0), (.int .i64 0), (.str []), (.int .i64 0), (.int .i64 0), (.int .i64 0), (.int .i64 0), (.int .u64 0), .nilSlice])])
 (.seq (.reg [oT 3 (.mov (.t 0)), oT 4 (.mov (.t 0)), oT 5 (.mkfn (.func 106) [(.t 4)] []), oT 6 (.bslice 1 [(.str []), (.str []), (.str []), (.str []), (.str []), (.str [])] 6 [(0, 1, (.c (.str [61, 61]))), (1, 1, (.c (.str [33, 61]))), (2, 1, (.c (.str [60]))), (3, 1, (.c (.str [60, 61]))), (4, 1, (.c (.str [62]))), (5, 1, (.c (.str [62, 61])))]), oT 7 (.call 65 [(.t 3), (.t 5), (.c (.bool false)), (.t 6)]), oN (.store 9 (.t 2) (.t 7))])
 (.ret))) [.cell 2 true 9]
/-- (*stockade/tree.parser).maybe -/
def m101 : MFun := .code 18 (
 .seq (.reg [oT 4 (.mov (.c (.bool false)))])
 (.seq (.seq (.reg [oT 5 (.mov (.t 0)), oT 6 (.mov (.t 1)), oT 7 (.bslice 1 [(.str [])] 1 [(0, 1, (.t 6))]), oT 8 (.call 79 [(.t 5), (.t 7)]), oT 9 (.un .not (.t 8))])
 (.cond (.t 9)
  (.seq (.reg [oT 4 (.mov (.c (.bool false)))])
  (.ret))
  (.skip)))
 (.seq (.reg [oT 10 (.mov (.t 0)), oT 11 (.mov (.t 0)), oT 12 (.nilck (.t 11)), oT 13 (.faddr 0 (.t 12)), oT 14 (.load false 1 (.t 13)), oT 15 (.slc 5 (.t 14) (some (.c (.int .i64 1))) none none), oT 16 (.nilck (.t 10)), oT 17 (.faddr 0 (.t 16)), oN (.store 1 (.t 17) (.t 15))])
 (.seq (.reg [oT 4 (.mov (.c (.bool true)))])
 (.ret))))) [.t 4]
/-- (*stockade/tree.parser).open -/
def m102 : MFun := .code 34 (
 .seq (.reg [oT 4 (.new [(.int .i64 0), (.str []), (.int .i64 0), (.int .u64 0), (.int .i64 0)])])
 (.seq (.seq (.reg [oT 5 (.mov (.t 0)), oT 6 (.mov (.t 1)), oT 7 (.bslice 1 [(.str [])] 1 [(0, 1, (.t 6))]), oT 8 (.call 79 [(.t 5), (.t 7)]), oT 9 (.un .not (.t 8))])
 (.cond (.t 9)
  (.reg [oT 10 (.mov (.t 0)), oT 11 (.call 64 [(.t 10)])])
  (.skip)))
 (.seq (.seq (.reg [oT 12 (.mov (.t 0)), oT 13 (.nilck (.t 12)), oT 14 (.faddr 2 (.t 13)), oT 15 (.load false 1 (.t 14)), oT 16 (.bin .eql (.t 15) (.c (.int .i64 16)))])
 (.cond (.t 16)
  (.regD [oD 0 17 0 (.load false 1 (.c (.ptr 3 0))), oD 1 18 0 (.mov (.t 0)), oD 2 19 2 (.call 48 [(.t 18)]), oD 3 20 6 (.fld false 4 1 (.t 19)), oD 4 21 15 (.build [.nilIface, (.int .i64 0)] [(0, 1, (.t 17)), (1, 1, (.t 20))]), oD 5 22 31 (.build [.nilIface, (.int .i64 0)] [(0, 2, (.t 21))]), oD 6 23 63 (.mkif 95 (.t 22)), oE 7 127 (.panic (.t 23))])
  (.skip)))
 (.seq (.reg [oT 24 (.mov (.t 0)), oT 25 (.nilck (.t 24)), oT 26 (.faddr 2 (.t 25)), oT 27 (.load false 1 (.t 26)), oT 28 (.bin .add (.t 27) (.c (.int .i64 1))), oT 29 (.nilck (.t 24)), oT 30 (.faddr 2 (.t 29)), oN (.store 1 (.t 30) (.t 28))])
 (.seq (.reg [oT 31 (.mov (.t 0)), oT 32 (.mov (.t 1)), oT 33 (.call 85 [(.t 31), (.t 32)]), oN (.store 5 (.t 4) (.t 33))])
 (.ret)))))) [.cell 4 true 5]
/-- (*stockade/tree.parser).stmt -/
def m103 : MFun := .code 56 (
 .seq (.reg [oT 2 (.new [(.int .i64 0), (.int .i64 0), (.str []), (.int .i64 0), (.int .i64 0), (.int .i64 0), (.int .i64 0), (.int .u64 0), .nilSlice])])
 (.seq (.reg [oT 7 (.mov (.t 0)), oT 8 (.call 48 [(.t 7)]), oT 9 (.fld false 4 1 (.t 8)), oT 3 (.mov (.t 9))])
 (.seq (.block 0 (.seq (.reg [oT 11 (.mov (.t 0)), oT 12 (.call 101 [(.t 11), (.c (.str [105, 102]))]), oT 10 (.mov (.t 12))])
 (.cond (.t 10)
  (.seq (.reg [oT 13 (.mov (.t 3)), oT 14 (.mov (.t 0)), oT 15 (.call 38 [(.t 14)]), oT 16 (.bslice 9 [(.int .i64 0), (.int .i64 0), (.str []), (.int .i64 0), (.int .i64 0), (.int .i64 0), (.int .i64 0), (.int .u64 0), .nilSlice] 1 [(0, 9, (.t 15))]), oT 17 (.build [(.int .i64 0), (.int .i64 0), (.str []), (.int .i64 0), (.int .i64 0), (.int .i64 0), (.int .i64 0), (.int .u64 0), .nilSlice] [(0, 1, (.c (.int .i64 21))), (1, 1, (.t 13)), (8, 1, (.t 16))]), oT 4 (.new [(.int .i64 0), (.int .i64 0), (.str []), (.int .i64 0), (.int .i64 0), (.int .i64 0), (.int .i64 0), (.int .u64 0), .nilSlice]), oN (.store 9 (.t 4) (.t 17))])
  (.seq (.regD [oD 0 18 0 (.faddr 8 (.t 4)), oD 1 19 1 (.load false 1 (.t 18)), oD 2 20 0 (.mov (.t 0)), oD 3 21 4 (.call 84 [(.t 20)]), oD 4 22 12 (.bslice 9 [(.int .i64 0), (.int .i64 0), (.str []), (.int .i64 0), (.int .i64 0), (.int .i64 0), (.int .i64 0), (.int .u64 0), .nilSlice] 1 [(0, 9, (.t 21))]), oD 5 23 31 (.append 9 96 (.t 19) (.t 22)), oD 6 24 63 (.faddr 8 (.t 4)), oE 7 127 (.store 1 (.t 24) (.t 23))])
  (.seq (.seq (.reg [oT 25 (.mov (.t 0)), oT 26 (.call 101 [(.t 25), (.c (.str [101, 108, 115, 101]))])])
  (.cond (.t 26)
   (.regD [oD 0 27 0 (.faddr 8 (.t 4)), oD 1 28 1 (.load false 1 (.t 27)), oD 2 29 0 (.mov (.t 0)), oD 3 30 4 (.call 84 [(.t 29)]), oD 4 31 12 (.bslice 9 [(.int .i64 0), (.int .i64 0), (.str []), (.int .i64 0), (.int .i64 0), (.int .i64 0), (.int .i64 0), (.int .u64 0), .nilSlice] 1 [(0, 9, (.t 30))]), oD 5 32 31 (.append 9 96 (.t 28) (.t 31)), oD 6 33 63 (.faddr 8 (.t 4)), oE 7 127 (.store 1 (.t 33) (.t 32))])
   (.skip)))
  (.seq (.reg [oT 34 (.load true 9 (.t 4)), oN (.store 9 (.t 2) (.t 34))])
  (.ret)))))
  (.seq (.reg [oT 36 (.mov (.t 0)), oT 37 (.call 101 [(.t 36), (.c (.str [119, 104, 105, 108, 101]))]), oT 35 (.mov (.t 37))])
  (.cond (.t 35)
   (.seq (.reg [oT 38 (.mov (.t 3)), oT 39 (.mov (.t 0)), oT 40 (.call 38 [(.t 39)]), oT 41 (.bslice 9 [(.int .i64 0), (.int .i64 0), (.str []), (.int .i64 0), (.int .i64 0), (.int .i64 0), (.int .i64 0), (.int .u64 0), .nilSlice] 1 [(0, 9, (.t 40))]), oT 42 (.build [(.int .i64 0), (.int .i64 0), (.str []), (.int .i64 0), (.int .i64 0), (.int .i64 0), (.int .i64 0), (.int .u64 0), .nilSlice] [(0, 1, (.c (.int .i64 22))), (1, 1, (.t 38)), (8, 1, (.t 41))]), oT 5 (.new [(.int .i64 0), (.int .i64 0), (.str []), (.int .i64 0), (.int .i64 0), (.int .i64 0), (.int .i64 0), (.int .u64 0), .nilSlice]), oN (.store 9 (.t 5) (.t 42))])
   (.seq (.regD [oD 0 43 0 (.faddr 8 (.t 5)), oD 1 44 1 (.load false 1 (.t 43)), oD 2 45 0 (.mov (.t 0)), oD 3 46 4 (.call 84 [(.t 45)]), oD 4 47 12 (.bslice 9 [(.int .i64 0), (.int .i64 0), (.str []), (.int .i64 0), (.int .i64 0), (.int .i64 0), (.int .i64 0), (.int .u64 0), .nilSlice] 1 [(0, 9, (.t 46))]), oD 5 48 31 (.append 9 96 (.t 44) (.t 47)), oD 6 49 63 (.faddr 8 (.t 5)), oE 7 127 (.store 1 (.t 49) (.t 48))])
   (.seq (.reg [oT 50 (.load true 9 (.t 5)), oN (.store 9 (.t 2) (.t 50))])
   (.ret))))
   (.skip))))))
 (.seq (.reg [oT 51 (.mov (.t 0)), oT 52 (.call 111 [(.t 51)]), oT 6 (.new [(.int .i64 0), (.int .i64 0), (.str []), (.int .i64 0), (.int .i64 0), (.int .i64 0), (.int .i64 0), (.int .u64 0), .nilSlice]), oN (.store 9 (.t 6) (.t 52))])
 (.seq (.reg [oT 53 (.mov (.t 0)), oT 54 (.call 85 [(.t 53), (.c (.str [59]))])])
 (.seq (.reg [oT 55 (.load true 9 (.t 6)), oN (.store 9 (.t 2) (.t 55))])
 (.ret))))))) [.cell 2 true 9]
/-- (*stockade/tree.parser).close -/
def m104 : MFun := .code 14 (
 .seq (.reg [oT 4 (.mov (.t 0)), oT 5 (.mov (.t 1)), oT 6 (.call 85 [(.t 4), (.t 5)])])
 (.reg [oT 7 (.mov (.t 0)), oT 8 (.nilck (.t 7)), oT 9 (.faddr 2 (.t 8)), oT 10 (.load false 1 (.t 9)), oT 11 (.bin .sub (.t 10) (.c (.int .i64 1))), oT 12 (.nilck (.t 7)), oT 13 (.faddr 2 (.t 12)), oN (.store 1 (.t 13) (.t 11))])) []
/-- internal/stringslite.IndexByte -/
def m105 : MFun := .code 8 (
 .seq (.reg [oT 4 (.mov (.c (.int .i64 0)))])
 (.seq (.reg [oT 5 (.mov (.t 0)), oT 6 (.mov (.t 1)), oT 7 (.call 112 [(.t 5), (.t 6)]), oT 4 (.mov (.t 7))])
 (.ret))) [.t 4]
/-- (*stockade/tree.parser).sum -/
def m106 : MFun := .code 8 (
 .seq (.reg [oT 2 (.new [(.int .i64 0), (.int .i64 0), (.str []), (.int .i64 0), (.int .i64 0), (.int .i64 0), (.int .i64 0), (.int .u64 0), .nilSlice])])
 (.seq (.reg [oT 3 (.mov (.t 0)), oT 4 (.mov (.t 0)), oT 5 (.mkfn (.func 113) [(.t 4)] []), oT 6 (.bslice 1 [(.str []), (.str [])] 2 [(0, 1, (.c (.str [43]))), (1, 1, (.c (.str [45])))]), oT 7 (.call 65 [(.t 3), (.t 5), (.c (.bool true)), (.t 6)]), oN (.store 9 (.t 2) (.t 7))])
 (.ret))) [.cell 2 true 9]
/-- (*stockade/tree.parser).simple -/
def m111 : MFun := .code 76 (
 .seq (.reg [oT 2 (.new [(.int .i64 0), (.int .i64 0), (.str []), (.int .i64 0), (.int .i64 0), (.int .i64 0), (.int .i64 0), (.int .u64 0), .nilSlice])])
 (.seq (.reg [oT 5 (.mov (.t 0)), oT 6 (.call 48 [(.t 5)]), oT 3 (.new [(.int .i64 0), (.str []), (.int .i64 0), (.int .u64 0), (.int .i64 0)]), oN (.store 5 (.t 3) (.t 6))])
 (.seq (.seq (.reg [oT 7 (.faddr 0 (.t 3)), oT 8 (.load false 1 (.t 7)), oT 9 (.bin .eql (.t 8) (.c (.int .i64 1)))])
 (.cond (.t 9)
  (.seq (.reg [oT 10 (.mov (.t 0)), oT 11 (.call 116 [(.t 10)]), oN (.store 9 (.t 2) (.t 11))])
  (.ret))
  (.skip)))
 (.seq (.seq (.reg [oT 12 (.faddr 0 (.t 3)), oT 13 (.load false 1 (.t 12)), oT 14 (.bin .neq (.t 13) (.c (.int .i64 2)))])
 (.cond (.t 14)
  (.reg [oT 15 (.mov (.t 0)), oT 16 (.call 64 [(.t 15)])])
  (.skip)))
 (.seq (.seq (.reg [oT 17 (.faddr 1 (.t 3)), oT 18 (.load false 1 (.t 17))])
 (.block 0 (.seq (.reg [oT 20 (.bin .eql (.t 18) (.c (.str [103, 111]))), oT 19 (.mov (.t 20))])
 (.cond (.t 19)
  (.seq (.reg [oT 21 (.mov (.t 0)), oT 22 (.call 85 [(.t 21), (.c (.str [103, 111]))])])
  (.seq (.regD [oD 6 4 0 (.new [(.int .i64 0), (.int .i64 0), (.str []), (.int .i64 0), (.int .i64 0), (.int .i64 0), (.int .i64 0), (.int .u64 0), .nilSlice]), oD 0 23 0 (.faddr 4 (.t 3)), oD 1 24 1 (.load false 1 (.t 23)), oD 2 25 0 (.mov (.t 0)), oD 3 26 4 (.call 80 [(.t 25), (.c (.int .i64 1))]), oD 4 27 12 (.fld false 1 1 (.t 26)), oD 5 28 31 (.build [(.int .i64 0), (.int .i64 0), (.str []), (.int .i64 0), (.int .i64 0), (.int .i64 0), (.int .i64 0), (.int .u64 0), .nilSlice] [(0, 1, (.c (.int .i64 12))), (1, 1, (.t 24)), (2, 1, (.t 27))]), oE 7 127 (.store 9 (.t 4) (.t 28))])
  (.seq (.reg [oT 29 (.mov (.t 0)), oT 30 (.call 117 [(.t 29)]), oT 31 (.faddr 8 (.t 4)), oN (.store 1 (.t 31) (.t 30))])
  (.seq (.reg [oT 32 (.load true 9 (.t 4)), oN (.store 9 (.t 2) (.t 32))])
  (.ret)))))
  (.seq (.reg [oT 34 (.bin .eql (.t 18) (.c (.str [108, 111, 99, 107]))), oT 33 (.mov (.t 34))])
  (.cond (.t 33)
   (.seq (.reg [oT 35 (.mov (.t 0)), oT 36 (.call 118 [(.t 35), (.c (.int .i64 14)), (.c (.int .i64 0))]), oN (.store 9 (.t 2) (.t 36))])
   (.ret))
   (.seq (.reg [oT 38 (.bin .eql (.t 18) (.c (.str [117, 110, 108, 111, 99, 107]))), oT 37 (.mov (.t 38))])
   (.cond (.t 37)
    (.seq (.reg [oT 39 (.mov (.t 0)), oT 40 (.call 118 [(.t 39), (.c (.int .i64 15)), (.c (.int .i64 0))]), oN (.store 9 (.t 2) (.t 40))])
    (.ret))
    (.seq (.reg [oT 42 (.bin .eql (.t 18) (.c (.str [115, 101, 110, 100]))), oT 41 (.mov (.t 42))])
    (.cond (.t 41)
     (.seq (.reg [oT 43 (.mov (.t 0)), oT 44 (.call 118 [(.t 43), (.c (.int .i64 16)), (.c (.int .i64 1))]), oN (.store 9 (.t 2) (.t 44))])
     (.ret))
     (.seq (.reg [oT 46 (.bin .eql (.t 18) (.c (.str [114, 101, 99, 118]))), oT 45 (.mov (.t 46))])
     (.cond (.t 45)
      (.seq (.reg [oT 47 (.mov (.t 0)), oT 48 (.call 118 [(.t 47), (.c (.int .i64 17)), (.c (.int .i64 2))]), oN (.store 9 (.t 2) (.t 48))])
      (.ret))
      (.seq (.reg [oT 50 (.bin .eql (.t 18) (.c (.str [97, 100, 100]))), oT 49 (.mov (.t 50))])
      (.cond (.t 49)
       (.seq (.reg [oT 51 (.mov (.t 0)), oT 52 (.call 118 [(.t 51), (.c (.int .i64 18)), (.c (.int .i64 1))]), oN (.store 9 (.t 2) (.t 52))])
       (.ret))
       (.seq (.reg [oT 54 (.bin .eql (.t 18) (.c (.str [112, 117, 116]))), oT 53 (.mov (.t 54))])
       (.cond (.t 53)
        (.seq (.reg [oT 55 (.mov (.t 0)), oT 56 (.call 118 [(.t 55), (.c (.int .i64 19)), (.c (.int .i64 1))]), oN (.store 9 (.t 2) (.t 56))])
        (.ret))
        (.seq (.reg [oT 58 (.bin .eql (.t 18) (.c (.str [103, 101, 116]))), oT 57 (.mov (.t 58))])
        (.cond (.t 57)
         (.seq (.reg [oT 59 (.mov (.t 0)), oT 60 (.call 118 [(.t 59), (.c (.int .i64 20)), (.c (.int .i64 2))]), oN (.store 9 (.t 2) (.t 60))])
         (.ret))
         (.seq (.reg [oT 62 (.bin .eql (.t 18) (.c (.str [114, 101, 116, 117, 114, 110]))), oT 61 (.mov (.t 62))])
         (.cond (.t 61)
          (.seq (.reg [oT 63 (.mov (.t 0)), oT 64 (.call 85 [(.t 63), (.c (.str [114, 101, 116, 117, 114, 110]))])])
          (.seq (.reg [oT 65 (.faddr 4 (.t 3)), oT 66 (.load false 1 (.t 65)), oT 67 (.build [(.int .i64 0), (.int .i64 0), (.str []), (.int .i64 0), (.int .i64 0), (.int .i64 0), (.int .i64 0), (.int .u64 0), .nilSlice] [(0, 1, (.c (.int .i64 23))), (1, 1, (.t 66))]), oN (.store 9 (.t 2) (.t 67))])
          (.ret)))
          (.skip)))))))))))))))))))))
 (.seq (.reg [oT 68 (.mov (.t 0)), oT 69 (.call 85 [(.t 68), (.c (.str [102, 97, 105, 108]))])])
 (.seq (.regD [oD 0 70 0 (.faddr 4 (.t 3)), oD 1 71 1 (.load false 1 (.t 70)), oD 2 72 0 (.mov (.t 0)), oD 3 73 4 (.call 38 [(.t 72)]), oD 4 74 12 (.bslice 9 [(.int .i64 0), (.int .i64 0), (.str []), (.int .i64 0), (.int .i64 0), (.int .i64 0), (.int .i64 0), (.int .u64 0), .nilSlice] 1 [(0, 9, (.t 73))]), oD 5 75 31 (.build [(.int .i64 0), (.int .i64 0), (.str []), (.int .i64 0), (.int .i64 0), (.int .i64 0), (.int .i64 0), (.int .u64 0), .nilSlice] [(0, 1, (.c (.int .i64 24))), (1, 1, (.t 71)), (8, 1, (.t 74))]), oE 6 63 (.store 9 (.t 2) (.t 75))])
 (.ret)))))))) [.cell 2 true 9]
/-- (*stockade/tree.parser).prod -/
def m113 : MFun := .code 8 (
 .seq (.reg [oT 2 (.new [(.int .i64 0), (.int .i64 0), (.str []), (.int .i64 0), (.int .i64 0), (.int .i64 0), (.int .i64 0), (.int .u64 0), .nilSlice])])
 (.seq (.reg [oT 3 (.mov (.t 0)), oT 4 (.mov (.t 0)), oT 5 (.mkfn (.func 119) [(.t 4)] []), oT 6 (.bslice 1 [(.str []), (.str []), (.str [])] 3 [(0, 1, (.c (.str [42]))), (1, 1, (.c (.str [47]))), (2, 1, (.c (.str [37])))]), oT 7 (.call 65 [(.t 3), (.t 5), (.c (.bool true)), (.t 6)]), oN (.store 9 (.t 2) (.t 7))])
 (.ret))) [.cell 2 true 9]
/-- (*stockade/tree.parser).worded -/
def m116 : MFun := .code 79 (
 .seq (.reg [oT 2 (.new [(.int .i64 0), (.int .i64 0), (.str []), (.int .i64 0), (.int .i64 0), (.int .i64 0), (.int .i64 0), (.int .u64 0), .nilSlice])])
 (.seq (.reg [oT 7 (.mov (.t 0)), oT 8 (.call 48 [(.t 7)]), oT 9 (.fld false 4 1 (.t 8)), oT 3 (.mov (.t 9))])
 (.seq (.seq (.reg [oT 10 (.mov (.t 0)), oT 11 (.nilck (.t 10)), oT 12 (.faddr 0 (.t 11)), oT 13 (.load false 1 (.t 12)), oT 14 (.lenL (.t 13)), oT 15 (.bin .gtr (.t 14) (.c (.int .i64 1))), oT 16 (.mov (.t 15)), oG 17 16 (.mov (.t 0)), oG 18 16 (.nilck (.t 17)), oG 19 16 (.faddr 0 (.t 18)), oG 20 16 (.load false 1 (.t 19)), oG 21 16 (.iaddr 5 (.t 20) (.c (.int .i64 1))), oG 22 16 (.faddr 0 (.t 21)), oG 23 16 (.load false 1 (.t 22)), oG 24 16 (.bin .eql (.t 23) (.c (.int .i64 5))), oT 25 (.pick (.t 16) (.t 24) (.c (.bool false)))])
 (.cond (.t 25)
  (.seq (.reg [oT 26 (.mov (.t 0)), oT 27 (.nilck (.t 26)), oT 28 (.faddr 0 (.t 27)), oT 29 (.load false 1 (.t 28)), oT 30 (.iaddr 5 (.t 29) (.c (.int .i64 1))), oT 31 (.faddr 1 (.t 30)), oT 32 (.load false 1 (.t 31))])
  (.block 0 (.seq (.reg [oT 34 (.bin .eql (.t 32) (.c (.str [58, 61]))), oT 33 (.mov (.t 34))])
  (.cond (.t 33)
   (.seq (.reg [oT 35 (.mov (.t 3)), oT 36 (.mov (.t 0)), oT 37 (.call 80 [(.t 36), (.c (.int .i64 1))]), oT 38 (.fld false 1 1 (.t 37)), oT 39 (.build [(.int .i64 0), (.int .i64 0), (.str []), (.int .i64 0), (.int .i64 0), (.int .i64 0), (.int .i64 0), (.int .u64 0), .nilSlice] [(0, 1, (.c (.int .i64 11))), (1, 1, (.t 35)), (2, 1, (.t 38))]), oT 4 (.new [(.int .i64 0), (.int .i64 0), (.str []), (.int .i64 0), (.int .i64 0), (.int .i64 0), (.int .i64 0), (.int .u64 0), .nilSlice]), oN (.store 9 (.t 4) (.t 39))])
   (.seq (.reg [oT 40 (.mov (.t 0)), oT 41 (.call 85 [(.t 40), (.c (.str [58, 61]))])])
   (.seq (.reg [oT 42 (.mov (.t 0)), oT 43 (.call 38 [(.t 42)]), oT 44 (.bslice 9 [(.int .i64 0), (.int .i64 0), (.str []), (.int .i64 0), (.int .i64 0), (.int .i64 0), (.int .i64 0), (.int .u64 0), .nilSlice] 1 [(0, 9, (.t 43))]), oT 45 (.faddr 8 (.t 4)), oN (.store 1 (.t 45) (.t 44))])
   (.seq (.reg [oT 46 (.load true 9 (.t 4)), oN (.store 9 (.t 2) (.t 46))])
   (.ret)))))
   (.seq (.reg [oT 48 (.bin .eql (.t 32) (.c (.str [40]))), oT 47 (.mov (.t 48))])
   (.cond (.t 47)
    (.seq (.reg [oT 49 (.mov (.t 3)), oT 50 (.mov (.t 0)), oT 51 (.call 80 [(.t 50), (.c (.int .i64 1))]), oT 52 (.fld false 1 1 (.t 51)), oT 53 (.build [(.int .i64 0), (.int .i64 0), (.str []), (.int .i64 0), (.int .i64 0), (.int .i64 0), (.int .i64 0), (.int .u64 0), .nilSlice] [(0, 1, (.c (.int .i64 13))), (1, 1, (.t 49)), (2, 1, (.t 52))]), oT 5 (.new [(.int .i64 0), (.int .i64 0), (.str []), (.int .i64 0), (.int .i64 0), (.int .i64 0), (.int .i64 0), (.int .u64 0), .nilSlice]), oN (.store 9 (.t 5) (.t 53))])
    (.seq (.reg [oT 54 (.mov (.t 0)), oT 55 (.call 117 [(.t 54)]), oT 56 (.faddr 8 (.t 5)), oN (.store 1 (.t 56) (.t 55))])
    (.seq (.reg [oT 57 (.load true 9 (.t 5)), oN (.store 9 (.t 2) (.t 57))])
    (.ret))))
    (.skip)))))))
  (.skip)))
 (.seq (.reg [oT 58 (.mov (.t 0)), oT 59 (.call 120 [(.t 58)]), oT 6 (.new [(.int .i64 0), (.int .i64 0), (.str []), (.int .i64 0), (.int .i64 0), (.int .i64 0), (.int .i64 0), (.int .u64 0), .nilSlice]), oN (.store 9 (.t 6) (.t 59))])
 (.seq (.seq (.reg [oT 60 (.faddr 0 (.t 6)), oT 61 (.load false 1 (.t 60)), oT 62 (.bin .eql (.t 61) (.c (.int .i64 28))), oT 63 (.mov (.t 62)), oG 64 63 (.mov (.t 0)), oG 65 63 (.bslice 1 [(.str [])] 1 [(0, 1, (.c (.str [61])))]), oG 66 63 (.call 79 [(.t 64), (.t 65)]), oG 67 63 (.un .not (.t 66)), oT 68 (.pick (.t 63) (.t 67) (.c (.bool false)))])
 (.cond (.t 68)
  (.reg [oT 69 (.mov (.t 0)), oT 70 (.call 64 [(.t 69)])])
  (.skip)))
 (.seq (.reg [oT 71 (.mov (.t 0)), oT 72 (.call 85 [(.t 71), (.c (.str [61]))])])
 (.seq (.regD [oD 0 73 0 (.mov (.t 3)), oD 1 74 0 (.load true 9 (.t 6)), oD 2 75 0 (.mov (.t 0)), oD 3 76 4 (.call 38 [(.t 75)]), oD 4 77 14 (.bslice 9 [(.int .i64 0), (.int .i64 0), (.str []), (.int .i64 0), (.int .i64 0), (.int .i64 0), (.int .i64 0), (.int .u64 0), .nilSlice, (.int .i64 0), (.int .i64 0), (.str []), (.int .i64 0), (.int .i64 0), (.int .i64 0), (.int .i64 0), (.int .u64 0), .nilSlice] 2 [(0, 9, (.t 74)), (9, 9, (.t 76))]), oD 5 78 31 (.build [(.int .i64 0), (.int .i64 0), (.str []), (.int .i64 0), (.int .i64 0), (.int .i64 0), (.int .i64 0), (.int .u64 0), .nilSlice] [(0, 1, (.c (.int .i64 10))), (1, 1, (.t 73)), (8, 1, (.t 77))]), oE 6 63 (.store 9 (.t 2) (.t 78))])
 (.ret)))))))) [.cell 2 true 9]
/-- (*stockade/tree.parser).args -/
def m117 : MFun := .code 22 (
 .seq (.reg [oT 2 (.mov (.c .nilSlice))])
 (.seq (.reg [oT 3 (.mov (.c .nilSlice))])
 (.seq (.reg [oT 5 (.mov (.t 0)), oT 6 (.call 102 [(.t 5), (.c (.str [40]))])])
 (.seq (.seq (.reg [oT 7 (.mov (.t 0)), oT 8 (.bslice 1 [(.str [])] 1 [(0, 1, (.c (.str [41])))]), oT 9 (.call 79 [(.t 7), (.t 8)]), oT 10 (.un .not (.t 9)), oT 4 (.mov (.t 10))])
 (.block 0 (.loop (.seq (.seq (.reg [oT 11 (.mov (.t 4))])
 (.cond (.t 11)
  (.skip)
  (.exit 0)))
 (.seq (.block 1 (.reg [oT 14 (.mov (.t 3)), oT 15 (.mov (.t 0)), oT 16 (.call 38 [(.t 15)]), oT 17 (.bslice 9 [(.int .i64 0), (.int .i64 0), (.str []), (.int .i64 0), (.int .i64 0), (.int .i64 0), (.int .i64 0), (.int .u64 0), .nilSlice] 1 [(0, 9, (.t 16))]), oT 18 (.append 9 96 (.t 14) (.t 17)), oT 3 (.mov (.t 18))]))
 (.reg [oT 12 (.mov (.t 0)), oT 13 (.call 101 [(.t 12), (.c (.str [44]))]), oT 4 (.mov (.t 13))]))))))
 (.seq (.reg [oT 19 (.mov (.t 0)), oT 20 (.call 104 [(.t 19), (.c (.str [41]))])])
 (.seq (.reg [oT 21 (.mov (.t 3)), oT 2 (.mov (.t 21))])
 (.ret))))))) [.t 2]
/-- (*stockade/tree.parser).named -/
def m118 : MFun := .code 41 (
 .seq (.reg [oT 6 (.new [(.int .i64 0), (.int .i64 0), (.str []), (.int .i64 0), (.int .i64 0), (.int .i64 0), (.int .i64 0), (.int .u64 0), .nilSlice])])
 (.seq (.reg [oT 8 (.mov (.t 1)), oT 9 (.mov (.t 0)), oT 10 (.call 48 [(.t 9)]), oT 11 (.fld false 4 1 (.t 10)), oT 12 (.build [(.int .i64 0), (.int .i64 0), (.str []), (.int .i64 0), (.int .i64 0), (.int .i64 0), (.int .i64 0), (.int .u64 0), .nilSlice] [(0, 1, (.t 8)), (1, 1, (.t 11))]), oT 7 (.new [(.int .i64 0), (.int .i64 0), (.str []), (.int .i64 0), (.int .i64 0), (.int .i64 0), (.int .i64 0), (.int .u64 0), .nilSlice]), oN (.store 9 (.t 7) (.t 12))])
 (.seq (.reg [oT 13 (.mov (.t 0)), oT 14 (.mov (.t 0)), oT 15 (.nilck (.t 14)), oT 16 (.faddr 0 (.t 15)), oT 17 (.load false 1 (.t 16)), oT 18 (.slc 5 (.t 17) (some (.c (.int .i64 1))) none none), oT 19 (.nilck (.t 13)), oT 20 (.faddr 0 (.t 19)), oN (.store 1 (.t 20) (.t 18))])
 (.seq (.reg [oT 21 (.mov (.t 0)), oT 22 (.call 80 [(.t 21), (.c (.int .i64 1))]), oT 23 (.fld false 1 1 (.t 22)), oT 24 (.faddr 2 (.t 7)), oN (.store 1 (.t 24) (.t 23))])
 (.seq (.seq (.reg [oT 25 (.mov (.t 2)), oT 26 (.bin .eql (.t 25) (.c (.int .i64 0)))])
 (.cond (.t 26)
  (.seq (.reg [oT 27 (.load true 9 (.t 7)), oN (.store 9 (.t 6) (.t 27))])
  (.ret))
  (.skip)))
 (.seq (.reg [oT 28 (.mov (.t 0)), oT 29 (.call 85 [(.t 28), (.c (.str [44]))])])
 (.seq (.seq (.reg [oT 30 (.mov (.t 2)), oT 31 (.bin .eql (.t 30) (.c (.int .i64 1)))])
 (.cond (.t 31)
  (.reg [oT 32 (.mov (.t 0)), oT 33 (.call 38 [(.t 32)]), oT 34 (.bslice 9 [(.int .i64 0), (.int .i64 0), (.str []), (.int .i64 0), (.int .i64 0), (.int .i64 0), (.int .i64 0), (.int .u64 0), .nilSlice] 1 [(0, 9, (.t 33))]), oT 35 (.faddr 8 (.t 7)), oN (.store 1 (.t 35) (.t 34))])
  (.reg [oT 36 (.mov (.t 0)), oT 37 (.call 120 [(.t 36)]), oT 38 (.bslice 9 [(.int .i64 0), (.int .i64 0), (.str []), (.int .i64 0), (.int .i64 0), (.int .i64 0), (.int .i64 0), (.int .u64 0), .nilSlice] 1 [(0, 9, (.t 37))]), oT 39 (.faddr 8 (.t 7)), oN (.store 1 (.t 39) (.t 38))])))
 (.seq (.reg [oT 40 (.load true 9 (.t 7)), oN (.store 9 (.t 6) (.t 40))])
 (.ret))))))))) [.cell 6 true 9]
/-- (*stockade/tree.parser).unary -/
def m119 : MFun := .code 32 (
 .seq (.reg [oT 2 (.new [(.int .i64 0), (.int .i64 0), (.str []), (.int .i64 0), (.int .i64 0), (.int .i64 0), (.int .i64 0), (.int .u64 0), .nilSlice])])
 (.seq (.seq (.reg [oT 5 (.mov (.t 0)), oT 6 (.bslice 1 [(.str []), (.str [])] 2 [(0, 1, (.c (.str [45]))), (1, 1, (.c (.str [33])))]), oT 7 (.call 79 [(.t 5), (.t 6)]), oT 8 (.un .not (.t 7))])
 (.cond (.t 8)
  (.seq (.reg [oT 9 (.mov (.t 0)), oT 10 (.call 121 [(.t 9)]), oN (.store 9 (.t 2) (.t 10))])
  (.ret))
  (.skip)))
 (.seq (.reg [oT 11 (.mov (.t 0)), oT 12 (.mov (.t 0)), oT 13 (.call 48 [(.t 12)]), oT 14 (.fld false 1 1 (.t 13)), oT 15 (.call 102 [(.t 11), (.t 14)]), oT 3 (.new [(.int .i64 0), (.str []), (.int .i64 0), (.int .u64 0), (.int .i64 0)]), oN (.store 5 (.t 3) (.t 15))])
 (.seq (.regD [oD 8 4 0 (.new [(.int .i64 0), (.int .i64 0), (.str []), (.int .i64 0), (.int .i64 0), (.int .i64 0), (.int .i64 0), (.int .u64 0), .nilSlice]), oD 0 16 0 (.faddr 4 (.t 3)), oD 1 17 1 (.load false 1 (.t 16)), oD 2 18 0 (.faddr 1 (.t 3)), oD 3 19 4 (.load false 1 (.t 18)), oD 4 20 0 (.mov (.t 0)), oD 5 21 16 (.call 119 [(.t 20)]), oD 6 22 48 (.bslice 9 [(.int .i64 0), (.int .i64 0), (.str []), (.int .i64 0), (.int .i64 0), (.int .i64 0), (.int .i64 0), (.int .u64 0), .nilSlice] 1 [(0, 9, (.t 21))]), oD 7 23 127 (.build [(.int .i64 0), (.int .i64 0), (.str []), (.int .i64 0), (.int .i64 0), (.int .i64 0), (.int .i64 0), (.int .u64 0), .nilSlice] [(0, 1, (.c (.int .i64 30))), (1, 1, (.t 17)), (2, 1, (.t 19)), (8, 1, (.t 22))]), oE 9 511 (.store 9 (.t 4) (.t 23))])
 (.seq (.reg [oT 24 (.mov (.t 0)), oT 25 (.nilck (.t 24)), oT 26 (.faddr 2 (.t 25)), oT 27 (.load false 1 (.t 26)), oT 28 (.bin .sub (.t 27) (.c (.int .i64 1))), oT 29 (.nilck (.t 24)), oT 30 (.faddr 2 (.t 29)), oN (.store 1 (.t 30) (.t 28))])
 (.seq (.reg [oT 31 (.load true 9 (.t 4)), oN (.store 9 (.t 2) (.t 31))])
 (.ret))))))) [.cell 2 true 9]
/-- (*stockade/tree.parser).name -/
def m120 : MFun := .code 25 (
 .seq (.reg [oT 2 (.new [(.int .i64 0), (.int .i64 0), (.str []), (.int .i64 0), (.int .i64 0), (.int .i64 0), (.int .i64 0), (.int .u64 0), .nilSlice])])
 (.seq (.reg [oT 5 (.mov (.t 0)), oT 6 (.call 80 [(.t 5), (.c (.int .i64 1))]), oT 3 (.new [(.int .i64 0), (.str []), (.int .i64 0), (.int .u64 0), (.int .i64 0)]), oN (.store 5 (.t 3) (.t 6))])
 (.seq (.reg [oT 7 (.faddr 4 (.t 3)), oT 8 (.load false 1 (.t 7)), oT 9 (.faddr 1 (.t 3)), oT 10 (.load false 1 (.t 9)), oT 11 (.build [(.int .i64 0), (.int .i64 0), (.str []), (.int .i64 0), (.int .i64 0), (.int .i64 0), (.int .i64 0), (.int .u64 0), .nilSlice] [(0, 1, (.c (.int .i64 28))), (1, 1, (.t 8)), (2, 1, (.t 10))]), oT 4 (.new [(.int .i64 0), (.int .i64 0), (.str []), (.int .i64 0), (.int .i64 0), (.int .i64 0), (.int .i64 0), (.int .u64 0), .nilSlice]), oN (.store 9 (.t 4) (.t 11))])
 (.seq (.seq (.reg [oT 12 (.mov (.t 0)), oT 13 (.bslice 1 [(.str [])] 1 [(0, 1, (.c (.str [91])))]), oT 14 (.call 79 [(.t 12), (.t 13)])])
 (.cond (.t 14)
  (.seq (.reg [oT 15 (.faddr 0 (.t 4)), oN (.store 1 (.t 15) (.c (.int .i64 29)))])
  (.seq (.reg [oT 16 (.mov (.t 0)), oT 17 (.call 102 [(.t 16), (.c (.str [91]))])])
  (.seq (.reg [oT 18 (.mov (.t 0)), oT 19 (.call 38 [(.t 18)]), oT 20 (.bslice 9 [(.int .i64 0), (.int .i64 0), (.str []), (.int .i64 0), (.int .i64 0), (.int .i64 0), (.int .i64 0), (.int .u64 0), .nilSlice] 1 [(0, 9, (.t 19))]), oT 21 (.faddr 8 (.t 4)), oN (.store 1 (.t 21) (.t 20))])
  (.reg [oT 22 (.mov (.t 0)), oT 23 (.call 104 [(.t 22), (.c (.str [93]))])]))))
  (.skip)))
 (.seq (.reg [oT 24 (.load true 9 (.t 4)), oN (.store 9 (.t 2) (.t 24))])
 (.ret)))))) [.cell 2 true 9]
/-- (*stockade/tree.parser).prim -/
def m121 : MFun := .code 78 (
 .seq (.reg [oT 2 (.new [(.int .i64 0), (.int .i64 0), (.str []), (.int .i64 0), (.int .i64 0), (.int .i64 0), (.int .i64 0), (.int .u64 0), .nilSlice])])
 (.seq (.reg [oT 6 (.mov (.t 0)), oT 7 (.call 48 [(.t 6)]), oT 3 (.new [(.int .i64 0), (.str []), (.int .i64 0), (.int .u64 0), (.int .i64 0)]), oN (.store 5 (.t 3) (.t 7))])
 (.seq (.block 0 (.seq (.reg [oT 9 (.faddr 0 (.t 3)), oT 10 (.load false 1 (.t 9)), oT 11 (.bin .eql (.t 10) (.c (.int .i64 3))), oT 8 (.mov (.t 11))])
 (.cond (.t 8)
  (.seq (.regD [oD 0 12 0 (.faddr 4 (.t 3)), oD 1 13 1 (.load false 1 (.t 12)), oD 2 14 0 (.mov (.t 0)), oD 3 15 4 (.call 80 [(.t 14), (.c (.int .i64 3))]), oD 4 16 12 (.fld false 2 1 (.t 15)), oD 5 17 31 (.build [(.int .i64 0), (.int .i64 0), (.str []), (.int .i64 0), (.int .i64 0), (.int .i64 0), (.int .i64 0), (.int .u64 0), .nilSlice] [(0, 1, (.c (.int .i64 25))), (1, 1, (.t 13)), (4, 1, (.t 16))]), oE 6 63 (.store 9 (.t 2) (.t 17))])
  (.ret))
  (.seq (.reg [oT 19 (.faddr 0 (.t 3)), oT 20 (.load false 1 (.t 19)), oT 21 (.bin .eql (.t 20) (.c (.int .i64 4))), oT 18 (.mov (.t 21))])
  (.cond (.t 18)
   (.seq (.regD [oD 0 22 0 (.faddr 4 (.t 3)), oD 1 23 1 (.load false 1 (.t 22)), oD 2 24 0 (.mov (.t 0)), oD 3 25 4 (.call 80 [(.t 24), (.c (.int .i64 4))]), oD 4 26 12 (.fld false 3 1 (.t 25)), oD 5 27 31 (.build [(.int .i64 0), (.int .i64 0), (.str []), (.int .i64 0), (.int .i64 0), (.int .i64 0), (.int .i64 0), (.int .u64 0), .nilSlice] [(0, 1, (.c (.int .i64 26))), (1, 1, (.t 23)), (7, 1, (.t 26))]), oE 6 63 (.store 9 (.t 2) (.t 27))])
   (.ret))
   (.seq (.reg [oT 29 (.faddr 0 (.t 3)), oT 30 (.load false 1 (.t 29)), oT 31 (.bin .eql (.t 30) (.c (.int .i64 1))), oT 28 (.mov (.t 31))])
   (.cond (.t 28)
    (.seq (.reg [oT 32 (.mov (.t 0)), oT 33 (.call 120 [(.t 32)]), oN (.store 9 (.t 2) (.t 33))])
    (.ret))
    (.seq (.reg [oT 35 (.mov (.t 0)), oT 36 (.call 101 [(.t 35), (.c (.str [116, 114, 117, 101]))]), oT 34 (.mov (.t 36))])
    (.cond (.t 34)
     (.seq (.reg [oT 37 (.faddr 4 (.t 3)), oT 38 (.load false 1 (.t 37)), oT 39 (.build [(.int .i64 0), (.int .i64 0), (.str []), (.int .i64 0), (.int .i64 0), (.int .i64 0), (.int .i64 0), (.int .u64 0), .nilSlice] [(0, 1, (.c (.int .i64 27))), (1, 1, (.t 38)), (4, 1, (.c (.int .i64 1)))]), oN (.store 9 (.t 2) (.t 39))])
     (.ret))
     (.seq (.reg [oT 41 (.mov (.t 0)), oT 42 (.call 101 [(.t 41), (.c (.str [102, 97, 108, 115, 101]))]), oT 40 (.mov (.t 42))])
     (.cond (.t 40)
      (.seq (.reg [oT 43 (.faddr 4 (.t 3)), oT 44 (.load false 1 (.t 43)), oT 45 (.build [(.int .i64 0), (.int .i64 0), (.str []), (.int .i64 0), (.int .i64 0), (.int .i64 0), (.int .i64 0), (.int .u64 0), .nilSlice] [(0, 1, (.c (.int .i64 27))), (1, 1, (.t 44))]), oN (.store 9 (.t 2) (.t 45))])
      (.ret))
      (.seq (.reg [oT 47 (.mov (.t 0)), oT 48 (.bslice 1 [(.str []), (.str [])] 2 [(0, 1, (.c (.str [105, 110, 116]))), (1, 1, (.c (.str [102, 108, 111, 97, 116])))]), oT 49 (.call 79 [(.t 47), (.t 48)]), oT 46 (.mov (.t 49))])
      (.cond (.t 46)
       (.seq (.reg [oT 50 (.mov (.t 0)), oT 51 (.mov (.t 0)), oT 52 (.nilck (.t 51)), oT 53 (.faddr 0 (.t 52)), oT 54 (.load false 1 (.t 53)), oT 55 (.slc 5 (.t 54) (some (.c (.int .i64 1))) none none), oT 56 (.nilck (.t 50)), oT 57 (.faddr 0 (.t 56)), oN (.store 1 (.t 57) (.t 55))])
       (.seq (.reg [oT 58 (.mov (.t 0)), oT 59 (.call 102 [(.t 58), (.c (.str [40]))])])
       (.seq (.regD [oD 8 4 0 (.new [(.int .i64 0), (.int .i64 0), (.str []), (.int .i64 0), (.int .i64 0), (.int .i64 0), (.int .i64 0), (.int .u64 0), .nilSlice]), oD 0 60 0 (.faddr 4 (.t 3)), oD 1 61 1 (.load false 1 (.t 60)), oD 2 62 0 (.faddr 1 (.t 3)), oD 3 63 4 (.load false 1 (.t 62)), oD 4 64 0 (.mov (.t 0)), oD 5 65 16 (.call 38 [(.t 64)]), oD 6 66 48 (.bslice 9 [(.int .i64 0), (.int .i64 0), (.str []), (.int .i64 0), (.int .i64 0), (.int .i64 0), (.int .i64 0), (.int .u64 0), .nilSlice] 1 [(0, 9, (.t 65))]), oD 7 67 127 (.build [(.int .i64 0), (.int .i64 0), (.str []), (.int .i64 0), (.int .i64 0), (.int .i64 0), (.int .i64 0), (.int .u64 0), .nilSlice] [(0, 1, (.c (.int .i64 30))), (1, 1, (.t 61)), (2, 1, (.t 63)), (8, 1, (.t 66))]), oE 9 511 (.store 9 (.t 4) (.t 67))])
       (.seq (.reg [oT 68 (.mov (.t 0)), oT 69 (.call 104 [(.t 68), (.c (.str [41]))])])
       (.seq (.reg [oT 70 (.load true 9 (.t 4)), oN (.store 9 (.t 2) (.t 70))])
       (.ret))))))
       (.skip))))))))))))))
 (.seq (.reg [oT 71 (.mov (.t 0)), oT 72 (.call 102 [(.t 71), (.c (.str [40]))])])
 (.seq (.reg [oT 73 (.mov (.t 0)), oT 74 (.call 38 [(.t 73)]), oT 5 (.new [(.int .i64 0), (.int .i64 0), (.str []), (.int .i64 0), (.int .i64 0), (.int .i64 0), (.int .i64 0), (.int .u64 0), .nilSlice]), oN (.store 9 (.t 5) (.t 74))])
 (.seq (.reg [oT 75 (.mov (.t 0)), oT 76 (.call 104 [(.t 75), (.c (.str [41]))])])
 (.seq (.reg [oT 77 (.load true 9 (.t 5)), oN (.store 9 (.t 2) (.t 77))])
 (.ret)))))))) [.cell 2 true 9]
end Go.Ev
