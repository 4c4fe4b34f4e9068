/- Numbers made small; what the statements on types have in common. -/
import Derived.Test.YtmlgcmeccofopaaGreatDoorTKa
import Derived.Test.YtmlgcmeccofopaaGreatDoorEvD
set_option linter.all false
set_option linter.unusedVariables false
set_option linter.unusedSimpArgs false
namespace Go.Ev
open Go
set_option maxRecDepth 100000
set_option maxHeartbeats 4000000

theorem wr_nn (n : Int) : 0 ≤ wr .u64 n := by
  unfold wr
  cases h : fits .u64 n with
  | true =>
    simp only [fits, Bool.and_eq_true, decide_eq_true_eq] at h
    exact h.1
  | false =>
    show 0 ≤ IntKind.u64.wrap n
    unfold IntKind.wrap
    simp only [IntKind.signed, IntKind.bits]
    first | exact Int.natCast_nonneg _ | exact Int.emod_nonneg _ (by decide)
theorem modv (n : Int) (m : Nat) (hm : 0 < m) (hm2 : m ≤ 1000) : ∃ a : Nat, a < m ∧ wr .i64 ((wr .u64 n).tmod (m : Int)) = Int.ofNat a := by
  obtain ⟨x, hx⟩ := Int.eq_ofNat_of_zero_le (wr_nn n)
  refine ⟨x % m, Nat.mod_lt _ hm, ?_⟩
  rw [hx, ← Int.ofNat_tmod]
  have h1 : x % m < m := Nat.mod_lt _ hm
  unfold wr
  have h2 : fits .i64 ((x % m : Nat) : Int) = true := by
    simp only [fits, Bool.and_eq_true, decide_eq_true_eq]
    omega
  rw [h2]
  rfl

noncomputable def hK : AHeap := alQ hq (.cells .own 1 [.str [105], .str [102], .str [98]])
theorem all3 {f : Nat → Bool} (h : [0, 1, 2].all f = true) {a : Nat} (ha : a < 3) : f a = true := by
  simp only [List.all_cons, List.all_nil, Bool.and_true, Bool.and_eq_true] at h
  obtain ⟨h0, h1, h2⟩ := h
  match a, ha with
  | 0, _ => exact h0
  | 1, _ => exact h1
  | 2, _ => exact h2
end Go.Ev
/- Which binary operator takes which types: the walk up to the numbers that count. -/
namespace Go.Ev
open Go
set_option maxRecDepth 100000
set_option maxHeartbeats 4000000

def k7R : MCode := .seq (.regD [oD 0 45 0 (.mov (.t 7)), oD 1 46 0 (.mov (.t 10)), oD 2 47 3 (.iaddr 1 (.t 45) (.t 46)), oD 3 48 7 (.load false 1 (.t 47)), oD 4 49 15 (.bin .add (.t 48) (.c (.str [32, 61, 32]))), oD 5 50 0 (.mov (.t 7)), oD 6 51 0 (.mov (.t 8)), oD 7 52 96 (.iaddr 1 (.t 50) (.t 51)), oD 8 53 224 (.load false 1 (.t 52)), oD 9 54 511 (.bin .add (.t 49) (.t 53)), oD 10 55 1023 (.bin .add (.t 54) (.c (.str [32]))), oD 11 56 0 (.mov (.t 11)), oD 12 57 0 (.mov (.t 12)), oD 13 58 6144 (.iaddr 1 (.t 56) (.t 57)), oD 14 59 14336 (.load false 1 (.t 58)), oD 15 60 32767 (.bin .add (.t 55) (.t 59)), oD 16 61 65535 (.bin .add (.t 60) (.c (.str [32]))), oD 17 62 0 (.mov (.t 7)), oD 18 63 0 (.mov (.t 9)), oD 19 64 393216 (.iaddr 1 (.t 62) (.t 63)), oD 20 65 917504 (.load false 1 (.t 64)), oD 21 66 2097151 (.bin .add (.t 61) (.t 65)), oD 22 67 4194303 (.bin .add (.t 66) (.c (.str [59]))), oD 23 68 8388607 (.call 23 [(.t 67)]), oD 24 44 16777215 (.mov (.t 68)), oD 25 69 33554431 (.ext (.t 44) 0), oD 26 70 33554431 (.ext (.t 44) 1), oD 27 13 67108863 (.mov (.t 69)), oD 28 14 268435455 (.mov (.t 70))])
 (.seq (.reg [oT 15 (.mov (.c (.bool false)))])
 (.seq (.block 0 (.seq (.reg [oT 78 (.mov (.t 8)), oT 79 (.mov (.t 9)), oT 80 (.bin .neq (.t 78) (.t 79)), oT 77 (.mov (.t 80))])
 (.cond (.t 77)
  (.skip)
  (.seq (.reg [oT 82 (.mov (.t 12)), oT 83 (.bin .lss (.t 82) (.c (.int .i64 4))), oT 81 (.mov (.t 83))])
  (.cond (.t 81)
   (.reg [oT 84 (.mov (.t 8)), oT 85 (.bin .lss (.t 84) (.c (.int .i64 2))), oT 86 (.mov (.t 85)), oG 87 86 (.mov (.t 10)), oG 88 86 (.mov (.t 8)), oG 89 86 (.bin .eql (.t 87) (.t 88)), oT 90 (.pick (.t 86) (.t 89) (.c (.bool false))), oT 15 (.mov (.t 90))])
   (.seq (.reg [oT 92 (.mov (.t 12)), oT 93 (.bin .eql (.t 92) (.c (.int .i64 4))), oT 91 (.mov (.t 93))])
   (.cond (.t 91)
    (.reg [oT 94 (.mov (.t 8)), oT 95 (.bin .eql (.t 94) (.c (.int .i64 0))), oT 96 (.mov (.t 95)), oG 97 96 (.mov (.t 10)), oG 98 96 (.bin .eql (.t 97) (.c (.int .i64 0))), oT 99 (.pick (.t 96) (.t 98) (.c (.bool false))), oT 15 (.mov (.t 99))])
    (.seq (.reg [oT 101 (.mov (.t 12)), oT 102 (.bin .lss (.t 101) (.c (.int .i64 7))), oT 100 (.mov (.t 102))])
    (.cond (.t 100)
     (.reg [oT 103 (.mov (.t 10)), oT 104 (.bin .eql (.t 103) (.c (.int .i64 2))), oT 15 (.mov (.t 104))])
     (.seq (.reg [oT 106 (.mov (.t 12)), oT 107 (.bin .lss (.t 106) (.c (.int .i64 11))), oT 105 (.mov (.t 107))])
     (.cond (.t 105)
      (.reg [oT 108 (.mov (.t 8)), oT 109 (.bin .lss (.t 108) (.c (.int .i64 2))), oT 110 (.mov (.t 109)), oG 111 110 (.mov (.t 10)), oG 112 110 (.bin .eql (.t 111) (.c (.int .i64 2))), oT 113 (.pick (.t 110) (.t 112) (.c (.bool false))), oT 15 (.mov (.t 113))])
      (.reg [oT 71 (.mov (.t 8)), oT 72 (.bin .eql (.t 71) (.c (.int .i64 2))), oT 73 (.mov (.t 72)), oG 74 73 (.mov (.t 10)), oG 75 73 (.bin .eql (.t 74) (.c (.int .i64 2))), oT 76 (.pick (.t 73) (.t 75) (.c (.bool false))), oT 15 (.mov (.t 76))]))))))))))))
 (.seq (.reg [oT 114 (.mov (.t 14)), oT 115 (.mov (.t 114)), oG 116 115 (.mov (.t 13)), oG 117 115 (.mov (.t 15)), oG 118 115 (.eqv false (.one .bool) (.t 116) (.t 117)), oT 119 (.pick (.t 115) (.t 118) (.c (.bool false))), oT 2 (.mov (.t 119))])
 (.ret))))
theorem F7 : F 7 = some (.code 120 (.seq (.reg [oT 1 (.box (.t 0)), oT 2 (.mov (.c (.bool false)))])
 (.seq (.regD [oD 0 16 0 (.faddr 0 (.t 1)), oD 1 17 1 (.load false 1 (.t 16)), oD 2 18 0 (.faddr 1 (.t 1)), oD 3 19 4 (.load false 1 (.t 18)), oD 4 20 0 (.faddr 2 (.t 1)), oD 5 21 16 (.load false 1 (.t 20)), oD 6 22 0 (.faddr 3 (.t 1)), oD 7 23 64 (.load false 1 (.t 22)), oD 8 3 3 (.mov (.t 17)), oD 9 4 271 (.mov (.t 19)), oD 10 5 831 (.mov (.t 21)), oD 11 6 2047 (.mov (.t 23))])
 (.seq (.seq (.reg [oT 24 (.call 22 []), oT 25 (.un .not (.t 24))])
 (.cond (.t 25)
  (.seq (.reg [oT 2 (.mov (.c (.bool false)))])
  (.ret))
  (.skip)))
 (.seq (.reg [oT 26 (.bslice 1 [(.str []), (.str []), (.str [])] 3 [(0, 1, (.c (.str [105]))), (1, 1, (.c (.str [102]))), (2, 1, (.c (.str [98])))]), oT 7 (.mov (.t 26))])
 (.seq (.reg [oT 27 (.mov (.t 4)), oT 28 (.cvi .u64 (.t 27)), oT 29 (.bin .rem (.t 28) (.c (.int .u64 3))), oT 30 (.cvi .i64 (.t 29)), oT 31 (.mov (.t 5)), oT 32 (.cvi .u64 (.t 31)), oT 33 (.bin .rem (.t 32) (.c (.int .u64 3))), oT 34 (.cvi .i64 (.t 33)), oT 35 (.mov (.t 6)), oT 36 (.cvi .u64 (.t 35)), oT 37 (.bin .rem (.t 36) (.c (.int .u64 3))), oT 38 (.cvi .i64 (.t 37)), oT 8 (.mov (.t 30)), oT 9 (.mov (.t 34)), oT 10 (.mov (.t 38))])
 (.seq (.reg [oT 39 (.bslice 1 [(.str []), (.str []), (.str []), (.str []), (.str []), (.str []), (.str []), (.str []), (.str []), (.str []), (.str []), (.str []), (.str [])] 13 [(0, 1, (.c (.str [43]))), (1, 1, (.c (.str [45]))), (2, 1, (.c (.str [42]))), (3, 1, (.c (.str [47]))), (4, 1, (.c (.str [37]))), (5, 1, (.c (.str [61, 61]))), (6, 1, (.c (.str [33, 61]))), (7, 1, (.c (.str [60]))), (8, 1, (.c (.str [60, 61]))), (9, 1, (.c (.str [62]))), (10, 1, (.c (.str [62, 61]))), (11, 1, (.c (.str [38, 38]))), (12, 1, (.c (.str [124, 124])))]), oT 11 (.mov (.t 39))])
 (.seq (.reg [oT 40 (.mov (.t 3)), oT 41 (.cvi .u64 (.t 40)), oT 42 (.bin .rem (.t 41) (.c (.int .u64 13))), oT 43 (.cvi .i64 (.t 42)), oT 12 (.mov (.t 43))])
 k7R))))))) [.t 2]) := rfl

noncomputable def hT (n0 n1 n2 n3 : Int) : AHeap := alQ (alQ (alQ hq (.cells .own 0 [.int .i64 n0, .int .i64 n1, .int .i64 n2, .int .i64 n3])) (.cells .own 1 [.str [105], .str [102], .str [98]])) (.cells .own 1 [.str [43], .str [45], .str [42], .str [47], .str [37], .str [61, 61], .str [33, 61], .str [60], .str [60, 61], .str [62], .str [62, 61], .str [38, 38], .str [124, 124]])
noncomputable def run7 (n0 n1 n2 n3 : Int) (k a c t : Nat) : Bool := feRest ftbl 60 120 [.t 2] k7R [(2, .bool false), (7, .slice (hq.n + 1) 0 3 3 true), (11, .slice (hq.n + 1 + 1) 0 13 13 true), (8, vi a), (9, vi c), (10, vi t), (12, vi k)] (hT n0 n1 n2 n3)
/-- What is owed by the runs. -/
def Two (k : Nat) : Prop := ∀ n0 n1 n2 n3 a c t, a < 3 → c < 3 → t < 3 → run7 n0 n1 n2 n3 k a c t = true
theorem two_law (hk : ∀ k, k < 13 → Two k) {n0 n1 n2 n3 : Int} : WF F 7 [.agg [.int .i64 n0, .int .i64 n1, .int .i64 n2, .int .i64 n3]] hq (fun r _ => r = .ret (.bool true)) := by
  refine WF.code F7 rfl ?_
  simp (disch := first | omega | (simp only [hN] <;> omega) | fail) only [go_sem, simprocAttr]
  refine alive_spec ⟨by (simp (disch := first | omega | (simp only [hN] <;> omega) | fail) only [go_sem, simprocAttr]; omega), fun b x e => .inr ?_⟩ ?_
  · have hb := lowOk.lt b x e
    simp (disch := first | omega | (simp only [hN] <;> omega) | fail) only [go_sem, simprocAttr]
    exact e
  simp (disch := first | omega | (simp only [hN] <;> omega) | fail) only [go_sem, simprocAttr]
  obtain ⟨a, ha, ea⟩ := modv n1 3 (by decide) (by decide)
  obtain ⟨c, hc, ec⟩ := modv n2 3 (by decide) (by decide)
  obtain ⟨t, ht, et⟩ := modv n3 3 (by decide) (by decide)
  obtain ⟨k, hk', ek⟩ := modv n0 13 (by decide) (by decide)
  simp only [Int.cast_ofNat_Int] at ea et ec ek
  rw [ea, et, ec, ek]
  refine fe_rest fT (k := 60) (l := [(2, .bool false), (7, .slice (hq.n + 1) 0 3 3 true), (11, .slice (hq.n + 1 + 1) 0 13 13 true), (8, vi a), (9, vi c), (10, vi t), (12, vi k)]) (by kernel_rfl) ?_ (by rw [← alQ_eq, ← alQ_eq, ← alQ_eq]; exact hk k hk' n0 n1 n2 n3 a c t ha hc ht)
  intro p hp
  simp only [List.mem_cons, List.not_mem_nil, or_false] at hp
  rcases hp with rfl | rfl | rfl | rfl | rfl | rfl | rfl <;> simp (disch := first | omega | (simp only [hN] <;> omega) | fail) only [go_sem, simprocAttr, vi]
end Go.Ev
