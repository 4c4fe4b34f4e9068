/- The statement's example, run once. -/
import Derived.Test.YtmlgcmeccofopaaGreatDoorLQE
import Derived.Test.YtmlgcmeccofopaaGreatDoorLQC
import Derived.Test.YtmlgcmeccofopaaGreatDoorEvC
set_option linter.all false
set_option linter.unusedVariables false
set_option linter.unusedSimpArgs false
namespace Go.Ev
open Go
set_option maxRecDepth 100000

theorem F0A {f : Nat} {m : MFun} (h : tbl.get f = some m) : F0 f = some m := by
  unfold F0
  by_cases e : f = fAl
  · subst e
    rw [tA] at h
    cases h
  · rw [beqF e]
    exact h
theorem FA {f : Nat} {m : MFun} (h : tbl.get f = some m) : F f = some m := by
  unfold F
  by_cases e : f = fAl
  · subst e
    rw [tA] at h
    cases h
  · rw [beqF e]
    exact h
theorem alive_run : h22 (feCall ftbl 60) (feDefs ftbl 60) 60 [] hq isT noB = true := by kernel_rfl
theorem alive_ev : ∃ k h1, evCall F0 k fAl [] hq = some (.ret (.bool true), h1) := by
  have w : WF F0 fAl [] hq (resB isT noB) := fe_run (ftbl_ok fun f m h => F0A h) (m := mAl) rfl e22 alive_run
  obtain ⟨r, h', ⟨k0, e⟩, q⟩ := w.ev
  rw [isT_of q] at e
  exact ⟨k0, h', e k0 (Nat.le_refl _)⟩
theorem gAl_ok : ∀ args r, gAl args = some r → PlainL args ∧ Plain r ∧ ∃ k h1, evCall F0 k fAl args hq = some (.ret r, h1) := by
  intro args r e
  cases args with
  | nil =>
    cases e
    exact ⟨plainL_nil, plain_bool true, alive_ev⟩
  | cons a l => cases e
theorem alive_spec {Q : QR} {h : AHeap} (hl : LowEq hq h) (hQ : Q (.ret (.bool true)) h) : WF F fAl [] h Q := WF.prim (p := pAl) rfl (runP_eq rfl hl) hQ
theorem fT : TOk F ftbl := ftbl_ok fun _ _ h => FA h
end Go.Ev
/- The table with the example as a primitive stands for the program. -/
namespace Go.Ev
open Go Go.Proofs
set_option maxRecDepth 100000
theorem FA_inv {f : Nat} {m : MFun} (h : F f = some m) : (f = fAl ∧ m = .prim pAl) ∨ tbl.get f = some m := by
  unfold F at h
  by_cases e : f = fAl
  · subst e
    rw [Nat.beq_refl] at h
    cases h
    exact .inl ⟨rfl, rfl⟩
  · rw [beqF e] at h
    exact .inr h
theorem F0_inv {f : Nat} {m : MFun} (h : F0 f = some m) : (f = fAl ∧ m = mAl) ∨ tbl.get f = some m := by
  unfold F0 at h
  by_cases e : f = fAl
  · subst e
    rw [Nat.beq_refl] at h
    cases h
    exact .inl ⟨rfl, rfl⟩
  · rw [beqF e] at h
    exact .inr h
theorem fok0 : FOk Tryz.prog F0 := fun f m h => by
  rcases F0_inv h with ⟨rfl, rfl⟩ | h
  · exact fokAl
  · exact fokT f m h
theorem prims0 : PrimsH F0 := fun f p h => by
  rcases F0_inv h with ⟨rfl, e⟩ | h
  · cases e
  · exact primsT f p h
theorem globs_le : Tryz.prog.globals.size ≤ hq.n := by
  have h : Nat.ble Tryz.prog.globals.size (21 + 17) = true := by kernel_rfl
  exact Nat.le_of_ble_eq_true h
theorem fokF : FOk Tryz.prog F := fun f m h => by
  rcases FA_inv h with ⟨rfl, rfl⟩ | h
  · exact runP_ok fok0 prims0 hmix lowOk globs_le gAl_ok
  · exact fokT f m h
theorem primsF : PrimsH F := fun f p h => by
  rcases FA_inv h with ⟨rfl, e⟩ | h
  · cases e
    exact fun args h r h' e => runP_h e
  · exact primsT f p h
end Go.Ev
/- Numbers made small; what the statements on types have in common. -/
namespace Go.Ev
open Go
set_option maxRecDepth 100000
set_option maxHeartbeats 4000000

theorem wr_nn (n : Int) : 0 ≤ wr .u64 n := by
  unfold wr
  cases h : fits .u64 n with
  | true =>
    simp only [fits, Bool.and_eq_true, decide_eq_true_eq] at h
    exact h.1
  | false =>
    show 0 ≤ IntKind.u64.wrap n
    unfold IntKind.wrap
    simp only [IntKind.signed, IntKind.bits]
    first | exact Int.natCast_nonneg _ | exact Int.emod_nonneg _ (by decide)
theorem modv (n : Int) (m : Nat) (hm : 0 < m) (hm2 : m ≤ 1000) : ∃ a : Nat, a < m ∧ wr .i64 ((wr .u64 n).tmod (m : Int)) = Int.ofNat a := by
  obtain ⟨x, hx⟩ := Int.eq_ofNat_of_zero_le (wr_nn n)
  refine ⟨x % m, Nat.mod_lt _ hm, ?_⟩
  rw [hx, ← Int.ofNat_tmod]
  have h1 : x % m < m := Nat.mod_lt _ hm
  unfold wr
  have h2 : fits .i64 ((x % m : Nat) : Int) = true := by
    simp only [fits, Bool.and_eq_true, decide_eq_true_eq]
    omega
  rw [h2]
  rfl

noncomputable def hK : AHeap := alQ hq (.cells .own 1 [.str [105], .str [102], .str [98]])
theorem all3 {f : Nat → Bool} (h : [0, 1, 2].all f = true) {a : Nat} (ha : a < 3) : f a = true := by
  simp only [List.all_cons, List.all_nil, Bool.and_true, Bool.and_eq_true] at h
  obtain ⟨h0, h1, h2⟩ := h
  match a, ha with
  | 0, _ => exact h0
  | 1, _ => exact h1
  | 2, _ => exact h2
end Go.Ev
/- A local has the type of what it was declared with: the walk up to the numbers that count, and the runs behind it. -/
namespace Go.Ev
open Go
set_option maxRecDepth 100000
set_option maxHeartbeats 4000000

def k8R : MCode := .seq (.reg [oT 24 (.mov (.t 5)), oT 25 (.mov (.t 6)), oT 26 (.iaddr 1 (.t 24) (.t 25)), oT 27 (.load false 1 (.t 26)), oT 28 (.bin .add (.c (.str [118, 97, 114, 32, 105, 32, 105, 110, 116, 59, 32, 118, 97, 114, 32, 102, 32, 102, 108, 111, 97, 116, 59, 32, 118, 97, 114, 32, 98, 32, 98, 111, 111, 108, 59, 32, 102, 117, 110, 99, 32, 109, 97, 105, 110, 40, 41, 32, 123, 32, 118, 32, 58, 61, 32])) (.t 27)), oT 29 (.bin .add (.t 28) (.c (.str [59, 32, 125]))), oT 30 (.call 24 [(.t 29)]), oT 23 (.mov (.t 30)), oT 31 (.ext (.t 23) 0), oT 32 (.ext (.t 23) 1), oT 8 (.new [.nilSlice, (.int .i64 0), (.int .i64 0), .nilSlice, .nilSlice, (.int .i64 0)]), oT 9 (.new [.nilIface, (.int .i64 0)]), oN (.store 6 (.t 8) (.t 31)), oN (.store 2 (.t 9) (.t 32))])
 (.seq (.seq (.reg [oT 33 (.faddr 0 (.t 9)), oT 34 (.load false 1 (.t 33)), oT 35 (.eqv true (.one .iface) (.t 34) (.c .nilIface)), oT 36 (.mov (.t 35)), oH 37 36 (.faddr 4 (.t 8)), oH 38 36 (.load false 1 (.t 37)), oH 39 36 (.lenL (.t 38)), oH 40 36 (.bin .neq (.t 39) (.c (.int .i64 1))), oT 41 (.pick (.t 36) (.c (.bool true)) (.t 40)), oT 42 (.mov (.t 41)), oH 43 42 (.faddr 4 (.t 8)), oH 44 42 (.load false 1 (.t 43)), oH 45 42 (.iaddr 12 (.t 44) (.c (.int .i64 0))), oH 46 42 (.faddr 2 (.t 45)), oH 47 42 (.load false 1 (.t 46)), oH 48 42 (.lenL (.t 47)), oH 49 42 (.bin .neq (.t 48) (.c (.int .i64 1))), oT 50 (.pick (.t 42) (.c (.bool true)) (.t 49)), oT 51 (.mov (.t 50)), oH 52 51 (.faddr 4 (.t 8)), oH 53 51 (.load false 1 (.t 52)), oH 54 51 (.iaddr 12 (.t 53) (.c (.int .i64 0))), oH 55 51 (.faddr 2 (.t 54)), oH 56 51 (.load false 1 (.t 55)), oH 57 51 (.iaddr 1 (.t 56) (.c (.int .i64 0))), oH 58 51 (.load false 1 (.t 57)), oH 59 51 (.mov (.t 6)), oH 60 51 (.bin .add (.c (.int .i64 1)) (.t 59)), oH 61 51 (.bin .neq (.t 58) (.t 60)), oT 62 (.pick (.t 51) (.c (.bool true)) (.t 61))])
 (.cond (.t 62)
  (.seq (.reg [oT 4 (.mov (.c (.bool false)))])
  (.ret))
  (.skip)))
 (.seq (.regD [oD 0 64 0 (.mov (.t 5)), oD 1 65 0 (.mov (.t 6)), oD 2 66 3 (.iaddr 1 (.t 64) (.t 65)), oD 3 67 7 (.load false 1 (.t 66)), oD 4 68 15 (.bin .add (.c (.str [118, 32, 58, 61, 32])) (.t 67)), oD 5 69 31 (.bin .add (.t 68) (.c (.str [59, 32, 118, 32, 61, 32]))), oD 6 70 0 (.mov (.t 5)), oD 7 71 0 (.mov (.t 7)), oD 8 72 192 (.iaddr 1 (.t 70) (.t 71)), oD 9 73 448 (.load false 1 (.t 72)), oD 10 74 1023 (.bin .add (.t 69) (.t 73)), oD 11 75 2047 (.bin .add (.t 74) (.c (.str [59, 32]))), oD 12 76 0 (.mov (.t 5)), oD 13 77 0 (.mov (.t 7)), oD 14 78 12288 (.iaddr 1 (.t 76) (.t 77)), oD 15 79 28672 (.load false 1 (.t 78)), oD 16 80 65535 (.bin .add (.t 75) (.t 79)), oD 17 81 131071 (.bin .add (.t 80) (.c (.str [32, 61, 32, 118, 59]))), oD 18 82 262143 (.call 23 [(.t 81)]), oD 19 63 524287 (.mov (.t 82)), oD 20 83 1048575 (.ext (.t 63) 0), oD 21 84 1048575 (.ext (.t 63) 1), oD 22 10 2097151 (.mov (.t 83)), oD 23 11 8388607 (.mov (.t 84))])
 (.seq (.reg [oT 85 (.mov (.t 11)), oT 86 (.mov (.t 85)), oG 87 86 (.mov (.t 10)), oG 88 86 (.mov (.t 6)), oG 89 86 (.mov (.t 7)), oG 90 86 (.bin .eql (.t 88) (.t 89)), oG 91 86 (.eqv false (.one .bool) (.t 87) (.t 90)), oT 92 (.pick (.t 86) (.t 91) (.c (.bool false))), oT 4 (.mov (.t 92))])
 (.ret))))
theorem F8 : F 8 = some (.code 93 (.seq (.reg [oT 4 (.mov (.c (.bool false)))])
 (.seq (.seq (.reg [oT 12 (.call 22 []), oT 13 (.un .not (.t 12))])
 (.cond (.t 13)
  (.seq (.reg [oT 4 (.mov (.c (.bool false)))])
  (.ret))
  (.skip)))
 (.seq (.reg [oT 14 (.bslice 1 [(.str []), (.str []), (.str [])] 3 [(0, 1, (.c (.str [105]))), (1, 1, (.c (.str [102]))), (2, 1, (.c (.str [98])))]), oT 5 (.mov (.t 14))])
 (.seq (.reg [oT 15 (.mov (.t 0)), oT 16 (.cvi .u64 (.t 15)), oT 17 (.bin .rem (.t 16) (.c (.int .u64 3))), oT 18 (.cvi .i64 (.t 17)), oT 19 (.mov (.t 1)), oT 20 (.cvi .u64 (.t 19)), oT 21 (.bin .rem (.t 20) (.c (.int .u64 3))), oT 22 (.cvi .i64 (.t 21)), oT 6 (.mov (.t 18)), oT 7 (.mov (.t 22))])
 k8R)))) [.t 4]) := rfl

noncomputable def run8 (a t : Nat) : Bool := feRest ftbl 60 93 [.t 4] k8R [(4, .bool false), (5, .slice hq.n 0 3 3 true), (6, vi a), (7, vi t)] hK
theorem r8_0 : ([0, 1, 2].all fun t => run8 0 t) = true := by kernel_rfl
theorem r8_1 : ([0, 1, 2].all fun t => run8 1 t) = true := by kernel_rfl
theorem r8_2 : ([0, 1, 2].all fun t => run8 2 t) = true := by kernel_rfl
theorem run8_ok {a t : Nat} (ha : a < 3) (ht : t < 3) : run8 a t = true := by
  match a, ha with
  | 0, _ => exact all3 (f := fun t => run8 0 t) r8_0 ht
  | 1, _ => exact all3 (f := fun t => run8 1 t) r8_1 ht
  | 2, _ => exact all3 (f := fun t => run8 2 t) r8_2 ht
theorem lets_law {n0 n1 : Int} : WF F 8 [.int .i64 n0, .int .i64 n1] hq (fun r _ => r = .ret (.bool true)) := by
  refine WF.code F8 rfl ?_
  simp (disch := first | omega | (simp only [hN] <;> omega) | fail) only [go_sem, simprocAttr]
  refine alive_spec (LowEq.refl _) ?_
  simp (disch := first | omega | (simp only [hN] <;> omega) | fail) only [go_sem, simprocAttr]
  obtain ⟨a, ha, ea⟩ := modv n0 3 (by decide) (by decide)
  obtain ⟨t, ht, et⟩ := modv n1 3 (by decide) (by decide)
  simp only [Int.cast_ofNat_Int] at ea et
  rw [ea, et]
  refine fe_rest fT (k := 60) (l := [(4, .bool false), (5, .slice hq.n 0 3 3 true), (6, vi a), (7, vi t)]) (by kernel_rfl) ?_ (by rw [← alQ_eq]; exact run8_ok ha ht)
  intro p hp
  simp only [List.mem_cons, List.not_mem_nil, or_false] at hp
  rcases hp with rfl | rfl | rfl | rfl <;> simp (disch := first | omega | (simp only [hN] <;> omega) | fail) only [go_sem, simprocAttr, vi]
end Go.Ev
