/- The statement's example, run once. -/
import Derived.Test.YtmlgcmeccofopaaGreatDoorSQE
import Derived.Test.YtmlgcmeccofopaaGreatDoorSQC
import Derived.Test.YtmlgcmeccofopaaGreatDoorEvC
set_option linter.all false
set_option linter.unusedVariables false
set_option linter.unusedSimpArgs false
namespace Go.Ev
open Go
set_option maxRecDepth 100000

theorem F0A {f : Nat} {m : MFun} (h : tbl.get f = some m) : F0 f = some m := by
  unfold F0
  by_cases e : f = fAl
  · subst e
    rw [tA] at h
    cases h
  · rw [beqF e]
    exact h
theorem FA {f : Nat} {m : MFun} (h : tbl.get f = some m) : F f = some m := by
  unfold F
  by_cases e : f = fAl
  · subst e
    rw [tA] at h
    cases h
  · rw [beqF e]
    exact h
theorem alive_run : h12 (feCall ftbl 60) (feDefs ftbl 60) 60 [] hq isT noB = true := by kernel_rfl
theorem alive_ev : ∃ k h1, evCall F0 k fAl [] hq = some (.ret (.bool true), h1) := by
  have w : WF F0 fAl [] hq (resB isT noB) := fe_run (ftbl_ok fun f m h => F0A h) (m := mAl) rfl e12 alive_run
  obtain ⟨r, h', ⟨k0, e⟩, q⟩ := w.ev
  rw [isT_of q] at e
  exact ⟨k0, h', e k0 (Nat.le_refl _)⟩
theorem gAl_ok : ∀ args r, gAl args = some r → PlainL args ∧ Plain r ∧ ∃ k h1, evCall F0 k fAl args hq = some (.ret r, h1) := by
  intro args r e
  cases args with
  | nil =>
    cases e
    exact ⟨plainL_nil, plain_bool true, alive_ev⟩
  | cons a l => cases e
theorem alive_spec {Q : QR} {h : AHeap} (hl : LowEq hq h) (hQ : Q (.ret (.bool true)) h) : WF F fAl [] h Q := WF.prim (p := pAl) rfl (runP_eq rfl hl) hQ
theorem fT : TOk F ftbl := ftbl_ok fun _ _ h => FA h
end Go.Ev
/- The table with the example as a primitive stands for the program. -/
namespace Go.Ev
open Go Go.Proofs
set_option maxRecDepth 100000
theorem FA_inv {f : Nat} {m : MFun} (h : F f = some m) : (f = fAl ∧ m = .prim pAl) ∨ tbl.get f = some m := by
  unfold F at h
  by_cases e : f = fAl
  · subst e
    rw [Nat.beq_refl] at h
    cases h
    exact .inl ⟨rfl, rfl⟩
  · rw [beqF e] at h
    exact .inr h
theorem F0_inv {f : Nat} {m : MFun} (h : F0 f = some m) : (f = fAl ∧ m = mAl) ∨ tbl.get f = some m := by
  unfold F0 at h
  by_cases e : f = fAl
  · subst e
    rw [Nat.beq_refl] at h
    cases h
    exact .inl ⟨rfl, rfl⟩
  · rw [beqF e] at h
    exact .inr h
theorem fok0 : FOk Tryz.prog F0 := fun f m h => by
  rcases F0_inv h with ⟨rfl, rfl⟩ | h
  · exact fokAl
  · exact fokT f m h
theorem prims0 : PrimsH F0 := fun f p h => by
  rcases F0_inv h with ⟨rfl, e⟩ | h
  · cases e
  · exact primsT f p h
theorem globs_le : Tryz.prog.globals.size ≤ hq.n := by
  have h : Nat.ble Tryz.prog.globals.size (21 + 17) = true := by kernel_rfl
  exact Nat.le_of_ble_eq_true h
theorem fokF : FOk Tryz.prog F := fun f m h => by
  rcases FA_inv h with ⟨rfl, rfl⟩ | h
  · exact runP_ok fok0 prims0 hmix lowOk globs_le gAl_ok
  · exact fokT f m h
theorem primsF : PrimsH F := fun f p h => by
  rcases FA_inv h with ⟨rfl, e⟩ | h
  · cases e
    exact fun args h r h' e => runP_h e
  · exact primsT f p h
end Go.Ev
/- Numbers made small; what the statements on types have in common. -/
namespace Go.Ev
open Go
set_option maxRecDepth 100000
set_option maxHeartbeats 4000000

theorem wr_nn (n : Int) : 0 ≤ wr .u64 n := by
  unfold wr
  cases h : fits .u64 n with
  | true =>
    simp only [fits, Bool.and_eq_true, decide_eq_true_eq] at h
    exact h.1
  | false =>
    show 0 ≤ IntKind.u64.wrap n
    unfold IntKind.wrap
    simp only [IntKind.signed, IntKind.bits]
    first | exact Int.natCast_nonneg _ | exact Int.emod_nonneg _ (by decide)
theorem modv (n : Int) (m : Nat) (hm : 0 < m) (hm2 : m ≤ 1000) : ∃ a : Nat, a < m ∧ wr .i64 ((wr .u64 n).tmod (m : Int)) = Int.ofNat a := by
  obtain ⟨x, hx⟩ := Int.eq_ofNat_of_zero_le (wr_nn n)
  refine ⟨x % m, Nat.mod_lt _ hm, ?_⟩
  rw [hx, ← Int.ofNat_tmod]
  have h1 : x % m < m := Nat.mod_lt _ hm
  unfold wr
  have h2 : fits .i64 ((x % m : Nat) : Int) = true := by
    simp only [fits, Bool.and_eq_true, decide_eq_true_eq]
    omega
  rw [h2]
  rfl

noncomputable def hK : AHeap := alQ hq (.cells .own 1 [.str [105], .str [102], .str [98]])
end Go.Ev
/- A function has no more locals than it may: the walk up to the numbers that count. -/
namespace Go.Ev
open Go
set_option maxRecDepth 100000
set_option maxHeartbeats 4000000

def k5R : MCode := .seq (.reg [oT 5 (.mov (.c (.str [102, 117, 110, 99, 32, 109, 97, 105, 110, 40, 41, 32, 123])))])
 (.seq (.seq (.reg [oT 22 (.mov (.t 0)), oT 23 (.mov (.c (.int .i64 0)))])
 (.block 0 (.loop (.seq (.reg [oT 24 (.bin .lss (.t 23) (.t 22))])
 (.seq (.cond (.t 24)
  (.skip)
  (.exit 0))
 (.seq (.block 1 (.seq (.reg [oT 25 (.mov (.t 23)), oT 6 (.mov (.t 25))])
 (.seq (.seq (.reg [oT 26 (.mov (.t 6)), oT 27 (.mov (.t 1)), oT 28 (.bin .rem (.t 26) (.t 27)), oT 29 (.bin .eql (.t 28) (.c (.int .i64 0)))])
 (.cond (.t 29)
  (.reg [oT 30 (.mov (.t 5)), oT 31 (.bin .add (.t 30) (.c (.str [105, 102, 32, 116, 114, 117, 101, 32, 123]))), oT 5 (.mov (.t 31))])
  (.skip)))
 (.seq (.reg [oT 32 (.mov (.t 5)), oT 33 (.mov (.t 6)), oT 34 (.mov (.t 1)), oT 35 (.bin .rem (.t 33) (.t 34)), oT 36 (.bin .add (.c (.int .i64 97)) (.t 35)), oT 37 (.cvi .u8 (.t 36)), oT 38 (.bslice 1 [(.int .u8 0)] 1 [(0, 1, (.t 37))]), oT 39 (.cvbs (.t 38)), oT 40 (.bin .add (.c (.str [118])) (.t 39)), oT 41 (.bin .add (.t 40) (.c (.str [32, 58, 61, 32, 49, 59]))), oT 42 (.bin .add (.t 32) (.t 41)), oT 5 (.mov (.t 42))])
 (.seq (.reg [oT 43 (.mov (.t 6)), oT 44 (.mov (.t 1)), oT 45 (.bin .rem (.t 43) (.t 44)), oT 46 (.mov (.t 1)), oT 47 (.bin .sub (.t 46) (.c (.int .i64 1))), oT 48 (.bin .eql (.t 45) (.t 47)), oT 49 (.mov (.t 48)), oH 50 49 (.mov (.t 6)), oH 51 49 (.mov (.t 0)), oH 52 49 (.bin .sub (.t 51) (.c (.int .i64 1))), oH 53 49 (.bin .eql (.t 50) (.t 52)), oT 54 (.pick (.t 49) (.c (.bool true)) (.t 53))])
 (.cond (.t 54)
  (.reg [oT 55 (.mov (.t 5)), oT 56 (.bin .add (.t 55) (.c (.str [125]))), oT 5 (.mov (.t 56))])
  (.skip)))))))
 (.reg [oT 57 (.bin .add (.t 23) (.c (.int .i64 1))), oT 23 (.mov (.t 57))])))))))
 (.seq (.reg [oT 59 (.mov (.t 5)), oT 60 (.bin .add (.t 59) (.c (.str [125]))), oT 61 (.call 20 [(.t 60)]), oT 58 (.mov (.t 61)), oT 62 (.ext (.t 58) 0), oT 63 (.ext (.t 58) 1), oT 7 (.new [(.int .i64 0), (.int .i64 0), (.str []), (.int .i64 0), (.int .i64 0), (.int .i64 0), (.int .i64 0), (.int .u64 0), .nilSlice]), oT 8 (.new [.nilIface, (.int .i64 0)]), oN (.store 9 (.t 7) (.t 62)), oN (.store 2 (.t 8) (.t 63))])
 (.seq (.seq (.reg [oT 64 (.faddr 0 (.t 8)), oT 65 (.load false 1 (.t 64)), oT 66 (.eqv true (.one .iface) (.t 65) (.c .nilIface))])
 (.cond (.t 66)
  (.seq (.reg [oT 4 (.mov (.c (.bool false)))])
  (.ret))
  (.skip)))
 (.seq (.reg [oT 68 (.load true 9 (.t 7)), oT 69 (.call 16 [(.t 68)]), oT 67 (.mov (.t 69)), oT 70 (.ext (.t 67) 0), oT 71 (.ext (.t 67) 1), oT 9 (.new [.nilSlice, (.int .i64 0), (.int .i64 0), .nilSlice, .nilSlice, (.int .i64 0)]), oT 10 (.new [.nilIface, (.int .i64 0)]), oN (.store 6 (.t 9) (.t 70)), oN (.store 2 (.t 10) (.t 71))])
 (.seq (.seq (.reg [oT 72 (.mov (.t 0)), oT 73 (.bin .gtr (.t 72) (.c (.int .i64 32)))])
 (.cond (.t 73)
  (.seq (.reg [oT 74 (.faddr 0 (.t 10)), oT 75 (.load false 1 (.t 74)), oT 76 (.call 18 [(.t 75)]), oT 77 (.bin .eql (.t 76) (.c (.int .i64 6))), oT 4 (.mov (.t 77))])
  (.ret))
  (.skip)))
 (.seq (.reg [oT 78 (.faddr 0 (.t 10)), oT 79 (.load false 1 (.t 78)), oT 80 (.eqv false (.one .iface) (.t 79) (.c .nilIface)), oT 81 (.mov (.t 80)), oG 82 81 (.faddr 4 (.t 9)), oG 83 81 (.load false 1 (.t 82)), oG 84 81 (.lenL (.t 83)), oG 85 81 (.bin .eql (.t 84) (.c (.int .i64 1))), oT 86 (.pick (.t 81) (.t 85) (.c (.bool false))), oT 87 (.mov (.t 86)), oG 88 87 (.faddr 4 (.t 9)), oG 89 87 (.load false 1 (.t 88)), oG 90 87 (.iaddr 12 (.t 89) (.c (.int .i64 0))), oG 91 87 (.faddr 2 (.t 90)), oG 92 87 (.load false 1 (.t 91)), oG 93 87 (.lenL (.t 92)), oG 94 87 (.mov (.t 0)), oG 95 87 (.bin .eql (.t 93) (.t 94)), oT 96 (.pick (.t 87) (.t 95) (.c (.bool false))), oT 4 (.mov (.t 96))])
 (.ret)))))))
theorem F5 : F 5 = some (.code 97 (.seq (.reg [oT 4 (.mov (.c (.bool false)))])
 (.seq (.seq (.reg [oT 11 (.call 12 []), oT 12 (.un .not (.t 11))])
 (.cond (.t 12)
  (.seq (.reg [oT 4 (.mov (.c (.bool false)))])
  (.ret))
  (.skip)))
 (.seq (.reg [oT 13 (.mov (.t 0)), oT 14 (.cvi .u64 (.t 13)), oT 15 (.bin .rem (.t 14) (.c (.int .u64 40))), oT 16 (.cvi .i64 (.t 15)), oT 17 (.mov (.t 1)), oT 18 (.cvi .u64 (.t 17)), oT 19 (.bin .rem (.t 18) (.c (.int .u64 5))), oT 20 (.cvi .i64 (.t 19)), oT 21 (.bin .add (.c (.int .i64 1)) (.t 20)), oT 0 (.mov (.t 16)), oT 1 (.mov (.t 21))])
 k5R))) [.t 4]) := rfl

noncomputable def run5 (many blocks : Nat) : Bool := feRest ftbl 3000 97 [.t 4] k5R [(4, .bool false), (0, vi many), (1, vi blocks)] hq
theorem locals_law (hk : ∀ many b, many < 40 → b < 5 → run5 many (1 + b) = true) {n0 n1 : Int} : WF F 5 [.int .i64 n0, .int .i64 n1] hq (fun r _ => r = .ret (.bool true)) := by
  refine WF.code F5 rfl ?_
  simp (disch := first | omega | (simp only [hN] <;> omega) | fail) only [go_sem, simprocAttr]
  refine alive_spec (LowEq.refl _) ?_
  simp (disch := first | omega | (simp only [hN] <;> omega) | fail) only [go_sem, simprocAttr]
  obtain ⟨a, ha, ea⟩ := modv n0 40 (by decide) (by decide)
  obtain ⟨t, ht, et⟩ := modv n1 5 (by decide) (by decide)
  simp only [Int.cast_ofNat_Int] at ea et
  rw [ea, et]
  have e1 : wr .i64 (1 + Int.ofNat t) = Int.ofNat (1 + t) := by
    unfold wr
    rw [show fits .i64 (1 + Int.ofNat t) = true from by simp only [fits, Bool.and_eq_true, decide_eq_true_eq, Int.ofNat_eq_natCast]; omega]
    show (1 : Int) + Int.ofNat t = _
    simp only [Int.ofNat_eq_natCast]
    omega
  try rw [e1]
  refine fe_rest fT (k := 3000) (l := [(4, .bool false), (0, vi a), (1, vi (1 + t))]) (by kernel_rfl) ?_ (hk a t ha ht)
  intro p hp
  simp only [List.mem_cons, List.not_mem_nil, or_false] at hp
  rcases hp with rfl | rfl | rfl <;> simp (disch := first | omega | (simp only [hN] <;> omega) | fail) only [go_sem, simprocAttr, vi]
end Go.Ev
