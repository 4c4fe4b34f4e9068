/- Which unary operator takes which type: the walk up to the numbers that count, and the runs behind it. -/
import Derived.Test.YtmlgcmeccofopaaGreatDoorOKa
set_option linter.all false
set_option linter.unusedVariables false
set_option linter.unusedSimpArgs false
namespace Go.Ev
open Go
set_option maxRecDepth 100000
set_option maxHeartbeats 4000000

def k6R : MCode := .seq (.reg [oT 31 (.bslice 1 [(.str []), (.str []), (.str []), (.str [])] 4 [(0, 1, (.c (.str [45]))), (1, 1, (.c (.str [33]))), (2, 1, (.c (.str [105, 110, 116, 40]))), (3, 1, (.c (.str [102, 108, 111, 97, 116, 40])))]), oT 32 (.mov (.t 10)), oT 33 (.iaddr 1 (.t 31) (.t 32)), oT 34 (.load false 1 (.t 33)), oT 11 (.mov (.t 34))])
 (.seq (.reg [oT 35 (.bslice 1 [(.str []), (.str []), (.str []), (.str [])] 4 [(0, 1, (.c (.str []))), (1, 1, (.c (.str []))), (2, 1, (.c (.str [41]))), (3, 1, (.c (.str [41])))]), oT 36 (.mov (.t 10)), oT 37 (.iaddr 1 (.t 35) (.t 36)), oT 38 (.load false 1 (.t 37)), oT 12 (.mov (.t 38))])
 (.seq (.regD [oD 0 40 0 (.mov (.t 7)), oD 1 41 0 (.mov (.t 9)), oD 2 42 3 (.iaddr 1 (.t 40) (.t 41)), oD 3 43 7 (.load false 1 (.t 42)), oD 4 44 15 (.bin .add (.t 43) (.c (.str [32, 61, 32]))), oD 5 45 0 (.mov (.t 11)), oD 6 46 63 (.bin .add (.t 44) (.t 45)), oD 7 47 0 (.mov (.t 7)), oD 8 48 0 (.mov (.t 8)), oD 9 49 384 (.iaddr 1 (.t 47) (.t 48)), oD 10 50 896 (.load false 1 (.t 49)), oD 11 51 2047 (.bin .add (.t 46) (.t 50)), oD 12 52 0 (.mov (.t 12)), oD 13 53 8191 (.bin .add (.t 51) (.t 52)), oD 14 54 16383 (.bin .add (.t 53) (.c (.str [59]))), oD 15 55 32767 (.call 23 [(.t 54)]), oD 16 39 65535 (.mov (.t 55)), oD 17 56 131071 (.ext (.t 39) 0), oD 18 57 131071 (.ext (.t 39) 1), oD 19 13 262143 (.mov (.t 56)), oD 20 14 1048575 (.mov (.t 57))])
 (.seq (.reg [oT 58 (.mov (.t 10)), oT 59 (.bin .eql (.t 58) (.c (.int .i64 0))), oT 60 (.mov (.t 59)), oG 61 60 (.mov (.t 8)), oG 62 60 (.mov (.t 9)), oG 63 60 (.bin .eql (.t 61) (.t 62)), oT 64 (.pick (.t 60) (.t 63) (.c (.bool false))), oT 65 (.mov (.t 64)), oG 66 65 (.mov (.t 8)), oG 67 65 (.bin .lss (.t 66) (.c (.int .i64 2))), oT 68 (.pick (.t 65) (.t 67) (.c (.bool false))), oT 69 (.mov (.t 68)), oH 70 69 (.mov (.t 10)), oH 71 69 (.bin .eql (.t 70) (.c (.int .i64 1))), oH 72 69 (.mov (.t 71)), oG 73 72 (.mov (.t 8)), oG 74 72 (.bin .eql (.t 73) (.c (.int .i64 2))), oH 75 69 (.pick (.t 72) (.t 74) (.c (.bool false))), oH 76 69 (.mov (.t 75)), oG 77 76 (.mov (.t 9)), oG 78 76 (.bin .eql (.t 77) (.c (.int .i64 2))), oH 79 69 (.pick (.t 76) (.t 78) (.c (.bool false))), oT 80 (.pick (.t 69) (.c (.bool true)) (.t 79)), oT 81 (.mov (.t 80)), oH 82 81 (.mov (.t 10)), oH 83 81 (.bin .eql (.t 82) (.c (.int .i64 2))), oH 84 81 (.mov (.t 83)), oG 85 84 (.mov (.t 8)), oG 86 84 (.bin .eql (.t 85) (.c (.int .i64 1))), oH 87 81 (.pick (.t 84) (.t 86) (.c (.bool false))), oH 88 81 (.mov (.t 87)), oG 89 88 (.mov (.t 9)), oG 90 88 (.bin .eql (.t 89) (.c (.int .i64 0))), oH 91 81 (.pick (.t 88) (.t 90) (.c (.bool false))), oT 92 (.pick (.t 81) (.c (.bool true)) (.t 91)), oT 93 (.mov (.t 92)), oH 94 93 (.mov (.t 10)), oH 95 93 (.bin .eql (.t 94) (.c (.int .i64 3))), oH 96 93 (.mov (.t 95)), oG 97 96 (.mov (.t 8)), oG 98 96 (.bin .eql (.t 97) (.c (.int .i64 0))), oH 99 93 (.pick (.t 96) (.t 98) (.c (.bool false))), oH 100 93 (.mov (.t 99)), oG 101 100 (.mov (.t 9)), oG 102 100 (.bin .eql (.t 101) (.c (.int .i64 1))), oH 103 93 (.pick (.t 100) (.t 102) (.c (.bool false))), oT 104 (.pick (.t 93) (.c (.bool true)) (.t 103)), oT 15 (.mov (.t 104))])
 (.seq (.reg [oT 105 (.mov (.t 14)), oT 106 (.mov (.t 105)), oG 107 106 (.mov (.t 13)), oG 108 106 (.mov (.t 15)), oG 109 106 (.eqv false (.one .bool) (.t 107) (.t 108)), oT 110 (.pick (.t 106) (.t 109) (.c (.bool false))), oT 6 (.mov (.t 110))])
 (.ret)))))
theorem F6 : F 6 = some (.code 111 (.seq (.reg [oT 6 (.mov (.c (.bool false)))])
 (.seq (.seq (.reg [oT 16 (.call 22 []), oT 17 (.un .not (.t 16))])
 (.cond (.t 17)
  (.seq (.reg [oT 6 (.mov (.c (.bool false)))])
  (.ret))
  (.skip)))
 (.seq (.reg [oT 18 (.bslice 1 [(.str []), (.str []), (.str [])] 3 [(0, 1, (.c (.str [105]))), (1, 1, (.c (.str [102]))), (2, 1, (.c (.str [98])))]), oT 7 (.mov (.t 18))])
 (.seq (.reg [oT 19 (.mov (.t 1)), oT 20 (.cvi .u64 (.t 19)), oT 21 (.bin .rem (.t 20) (.c (.int .u64 3))), oT 22 (.cvi .i64 (.t 21)), oT 23 (.mov (.t 2)), oT 24 (.cvi .u64 (.t 23)), oT 25 (.bin .rem (.t 24) (.c (.int .u64 3))), oT 26 (.cvi .i64 (.t 25)), oT 8 (.mov (.t 22)), oT 9 (.mov (.t 26))])
 (.seq (.reg [oT 27 (.mov (.t 0)), oT 28 (.cvi .u64 (.t 27)), oT 29 (.bin .rem (.t 28) (.c (.int .u64 4))), oT 30 (.cvi .i64 (.t 29)), oT 10 (.mov (.t 30))])
 k6R))))) [.t 6]) := rfl

noncomputable def run6 (k a t : Nat) : Bool := feRest ftbl 200 111 [.t 6] k6R [(7, .slice hq.n 0 3 3 true), (8, vi a), (9, vi t), (10, vi k)] hK
theorem r6_0 : ([0, 1, 2].all fun a => [0, 1, 2].all fun t => run6 0 a t) = true := by kernel_rfl
theorem r6_1 : ([0, 1, 2].all fun a => [0, 1, 2].all fun t => run6 1 a t) = true := by kernel_rfl
theorem r6_2 : ([0, 1, 2].all fun a => [0, 1, 2].all fun t => run6 2 a t) = true := by kernel_rfl
theorem r6_3 : ([0, 1, 2].all fun a => [0, 1, 2].all fun t => run6 3 a t) = true := by kernel_rfl
theorem run6_ok {k a t : Nat} (hk : k < 4) (ha : a < 3) (ht : t < 3) : run6 k a t = true := by
  match k, hk with
  | 0, _ => exact all3 (f := fun t => run6 0 a t) (all3 (f := fun a => [0, 1, 2].all fun t => run6 0 a t) r6_0 ha) ht
  | 1, _ => exact all3 (f := fun t => run6 1 a t) (all3 (f := fun a => [0, 1, 2].all fun t => run6 1 a t) r6_1 ha) ht
  | 2, _ => exact all3 (f := fun t => run6 2 a t) (all3 (f := fun a => [0, 1, 2].all fun t => run6 2 a t) r6_2 ha) ht
  | 3, _ => exact all3 (f := fun t => run6 3 a t) (all3 (f := fun a => [0, 1, 2].all fun t => run6 3 a t) r6_3 ha) ht
theorem one_law {n0 n1 n2 : Int} : WF F 6 [.int .i64 n0, .int .i64 n1, .int .i64 n2] hq (fun r _ => r = .ret (.bool true)) := by
  refine WF.code F6 rfl ?_
  simp (disch := first | omega | (simp only [hN] <;> omega) | fail) only [go_sem, simprocAttr]
  refine alive_spec (LowEq.refl _) ?_
  simp (disch := first | omega | (simp only [hN] <;> omega) | fail) only [go_sem, simprocAttr]
  obtain ⟨a, ha, ea⟩ := modv n1 3 (by decide) (by decide)
  obtain ⟨t, ht, et⟩ := modv n2 3 (by decide) (by decide)
  obtain ⟨k, hk, ek⟩ := modv n0 4 (by decide) (by decide)
  simp only [Int.cast_ofNat_Int] at ea et ek
  rw [ea, et, ek]
  refine fe_rest fT (k := 200) (l := [(7, .slice hq.n 0 3 3 true), (8, vi a), (9, vi t), (10, vi k)]) (by kernel_rfl) ?_ (by rw [← alQ_eq]; exact run6_ok hk ha ht)
  intro p hp
  simp only [List.mem_cons, List.not_mem_nil, or_false] at hp
  rcases hp with rfl | rfl | rfl | rfl <;> simp (disch := first | omega | (simp only [hN] <;> omega) | fail) only [go_sem, simprocAttr, vi]
end Go.Ev
