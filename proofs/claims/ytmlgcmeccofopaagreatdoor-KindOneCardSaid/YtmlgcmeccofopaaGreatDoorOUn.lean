/- kind.unary: a map's literal, whatever the order of its entries: a primitive. -/
import Derived.Test.YtmlgcmeccofopaaGreatDoorEvD
import Derived.Test.YtmlgcmeccofopaaGreatDoorOKd
import Derived.Test.YtmlgcmeccofopaaGreatDoorOQC0
set_option linter.all false
set_option linter.unusedVariables false
set_option linter.unusedSimpArgs false
namespace Go.Ev
open Go Go.Proofs
set_option maxRecDepth 100000
set_option maxHeartbeats 4000000

theorem hmixU : Tryz.prog.follows .mixedOrders = true := by kernel_rfl
theorem unG_mem {s : List UInt8} {n : Int} {p : Nat × Int} (h : unG s n = some p) : (p = (2, 1) ∧ s = [45] ∧ n = 1) ∨ (p = (4, 2) ∧ s = [45] ∧ n = 2) ∨ (p = (6, 3) ∧ s = [33] ∧ n = 3) ∨ (p = (8, 1) ∧ s = [105, 110, 116] ∧ n = 2) ∨ (p = (10, 2) ∧ s = [102, 108, 111, 97, 116] ∧ n = 1) := by
  unfold unG at h
  repeat' split at h
  all_goals first | (cases h; done) | (cases h; simp_all)
theorem uG_congr {S S' : Nat → Bool} (h : S' 2 = S 2 ∧ S' 4 = S 4 ∧ S' 6 = S 6 ∧ S' 8 = S 8 ∧ S' 10 = S 10) (s : List UInt8) (n : Int) : uG S' s n = uG S s n := by
  obtain ⟨h1, h2, h3, h4, h5⟩ := h
  unfold uG
  cases e : unG s n with
  | none => rfl
  | some p => rcases unG_mem e with ⟨rfl, _⟩ | ⟨rfl, _⟩ | ⟨rfl, _⟩ | ⟨rfl, _⟩ | ⟨rfl, _⟩ <;> simp only [h1, h2, h3, h4, h5]
theorem eqT_key (s s' : List UInt8) (n n' : Int) : eqT uKT (uKey s n) (uKey s' n') = some (s == s' && n == n') := by
  simp only [uKT, uKey, eqT, eqKs, eqK, decide_true, cond_true]
  cases s == s' <;> cases n == n' <;> rfl
theorem keyOk_key (s : List UInt8) (n : Int) : keyOk uKT (uKey s n) = true := by
  unfold keyOk
  rw [eqT_key]
  simp
theorem set_new {t : KT} {k v : AV} : ∀ {es : List (AV × AV)}, findA t k es = some none → ∃ es', setA t k v es = some es' ∧ ∀ q, findA t q es' = (match findA t q es with | some none => (match eqT t q k with | some true => some (some v) | some false => some none | none => none) | r => r)
  | [], _ => ⟨[(k, v)], rfl, fun q => by simp only [findA]; cases eqT t q k with
    | none => rfl
    | some b => cases b <;> rfl⟩
  | (k', v') :: r, h => by
    simp only [findA] at h
    cases e : eqT t k k' with
    | none => rw [e] at h; cases h
    | some b =>
      rw [e] at h
      cases b with
      | true => cases h
      | false =>
        obtain ⟨es', h1, h2⟩ := set_new (v := v) (es := r) h
        refine ⟨(k', v') :: es', by simp only [setA, e, h1], fun q => ?_⟩
        simp only [findA]
        cases eqT t q k' with
        | none => rfl
        | some b =>
          cases b with
          | true => rfl
          | false => exact h2 q

def unL (s : List UInt8) (n : Int) (m : Nat) : List (Nat × Nat × AV) := [(0, 5, .map m), (1, 6, uKey [45] 1), (3, 7, uKey [45] 2), (5, 8, uKey [33] 3), (7, 9, uKey [105, 110, 116] 2), (9, 10, uKey [102, 108, 111, 97, 116] 1), (11, 11, .map m), (12, 12, .str s), (13, 13, .int .i64 n), (14, 14, uKey s n), (15, 15, .int .i64 (unF s n)), (16, 4, .int .i64 (unF s n))]
structure UJ (s : List UInt8) (n : Int) (h0 : AHeap) (S : Nat → Bool) (a : AAct) (h : AHeap) : Prop where
  df : a.df = []
  old : ∀ b, b < h0.n → h.get b = h0.get b
  hn : h.n = bif S 0 then h0.n + 1 else h0.n
  t0 : a.tm.get 0 = some (.str s)
  t1 : a.tm.get 1 = some (.int .i64 n)
  mp : S 0 = true → ∃ ver es, h.get h0.n = some ⟨ver, .amap es⟩ ∧ ∀ s' n', findA uKT (uKey s' n') es = some (uG S s' n')
  clo : (S 2 = true → S 0 = true) ∧ (S 4 = true → S 0 = true) ∧ (S 6 = true → S 0 = true) ∧ (S 8 = true → S 0 = true) ∧ (S 10 = true → S 0 = true)
  tm : ∀ p ∈ unL s n h0.n, S p.1 = true → a.tm.get p.2.1 = some p.2.2

section
variable {s : List UInt8} {n : Int} {h0 : AHeap} {S S' : Nat → Bool} {a : AAct} {h : AHeap}
theorem UJ.free (j : UJ s n h0 S a h) {i t : Nat} {v : AV} (hS' : ∀ j, S' j = (S j || j == i)) (hi : i ≠ 0 ∧ i ≠ 2 ∧ i ≠ 4 ∧ i ≠ 6 ∧ i ≠ 8 ∧ i ≠ 10) (ht : t ≠ 0 ∧ t ≠ 1)
    (hL : ∀ p ∈ unL s n h0.n, (p.1 = i ∧ p.2.1 = t ∧ p.2.2 = v) ∨ (p.1 ≠ i ∧ p.2.1 ≠ t)) : UJ s n h0 S' (a.put (some t) v) h := by
  obtain ⟨i0, i2, i4, i6, i8, i10⟩ := hi
  have e : ∀ k, k ≠ i → S' k = S k := fun k hk => by rw [hS', beq_eq_false_iff_ne.2 hk, Bool.or_false]
  refine ⟨j.df, j.old, ?_, ?_, ?_, ?_, ?_, ?_⟩
  · rw [e 0 (Ne.symm i0)]; exact j.hn
  · show (a.tm.set t v).get 0 = _
    rw [Tr.get_set, if_neg (Ne.symm ht.1)]; exact j.t0
  · show (a.tm.set t v).get 1 = _
    rw [Tr.get_set, if_neg (Ne.symm ht.2)]; exact j.t1
  · intro h1
    rw [e 0 (Ne.symm i0)] at h1
    obtain ⟨ver, es, h2, h3⟩ := j.mp h1
    exact ⟨ver, es, h2, fun s' n' => by rw [h3, uG_congr ⟨e 2 (Ne.symm i2), e 4 (Ne.symm i4), e 6 (Ne.symm i6), e 8 (Ne.symm i8), e 10 (Ne.symm i10)⟩]⟩
  · rw [e 0 (Ne.symm i0), e 2 (Ne.symm i2), e 4 (Ne.symm i4), e 6 (Ne.symm i6), e 8 (Ne.symm i8), e 10 (Ne.symm i10)]
    exact j.clo
  · intro p hp hs
    show (a.tm.set t v).get p.2.1 = _
    rw [Tr.get_set]
    rcases hL p hp with ⟨_, q2, q3⟩ | ⟨q1, q2⟩
    · rw [if_pos q2, q3]
    · rw [if_neg q2]
      rw [e p.1 q1] at hs
      exact j.tm p hp hs
theorem UJ.ins (j : UJ s n h0 S a h) {i : Nat} {sj : List UInt8} {nj vj : Int} (hG : unG sj nj = some (i, vj)) (hS' : ∀ j, S' j = (S j || j == i)) (hS : S i = false) (hS0 : S 0 = true)
    (hi : i ≠ 0) (hL : ∀ p ∈ unL s n h0.n, p.1 ≠ i) : ∃ ver es es', h.get h0.n = some ⟨ver, .amap es⟩ ∧ setA uKT (uKey sj nj) (.int .i64 vj) es = some es' ∧ UJ s n h0 S' a (h.upd h0.n (ver + 1) (.amap es')) := by
  obtain ⟨ver, es, h2, h3⟩ := j.mp hS0
  have hfn : findA uKT (uKey sj nj) es = some none := by
    rw [h3]
    unfold uG
    rw [hG]
    simp only [hS, cond_false]
  obtain ⟨es', h4, h5⟩ := set_new (v := .int .i64 vj) hfn
  have e : ∀ k, k ≠ i → S' k = S k := fun k hk => by rw [hS', beq_eq_false_iff_ne.2 hk, Bool.or_false]
  have ei : S' i = true := by rw [hS']; simp
  have mono : ∀ k, S k = true → S' k = true := fun k hk => by rw [hS', hk, Bool.true_or]
  have s0' : S' 0 = true := mono 0 hS0
  refine ⟨ver, es, es', h2, h4, ⟨j.df, ?_, ?_, j.t0, j.t1, ?_, ?_, ?_⟩⟩
  · intro b hb
    rw [AHeap.get_upd, if_neg (by omega)]
    exact j.old b hb
  · rw [s0']
    have := j.hn
    rw [hS0] at this
    exact this
  · intro _
    refine ⟨ver + 1, es', by rw [AHeap.get_upd, if_pos rfl], fun s' n' => ?_⟩
    rw [h5, h3]
    unfold uG
    rw [eqT_key]
    by_cases q : s' = sj ∧ n' = nj
    · obtain ⟨rfl, rfl⟩ := q
      rw [hG]
      simp [hS, ei]
    · have hne : (s' == sj && n' == nj) = false := by
        rw [Bool.and_eq_false_iff]
        by_cases q1 : s' = sj
        · exact .inr (beq_eq_false_iff_ne.2 fun q2 => q ⟨q1, q2⟩)
        · exact .inl (beq_eq_false_iff_ne.2 q1)
      rw [hne]
      cases eg : unG s' n' with
      | none => rfl
      | some p =>
        have hp : p.1 ≠ i := by
          intro hpi
          rcases unG_mem eg with ⟨rfl, g1, g2⟩ | ⟨rfl, g1, g2⟩ | ⟨rfl, g1, g2⟩ | ⟨rfl, g1, g2⟩ | ⟨rfl, g1, g2⟩ <;>
          rcases unG_mem hG with ⟨f0, f1, f2⟩ | ⟨f0, f1, f2⟩ | ⟨f0, f1, f2⟩ | ⟨f0, f1, f2⟩ | ⟨f0, f1, f2⟩ <;>
          first | exact q ⟨g1.trans f1.symm, g2.trans f2.symm⟩ | (simp only [Prod.mk.injEq] at f0; omega)
        simp only [e p.1 hp]
        cases S p.1 <;> rfl
  · exact ⟨fun _ => s0', fun _ => s0', fun _ => s0', fun _ => s0', fun _ => s0'⟩
  · intro p hp hs
    rw [e p.1 (hL p hp)] at hs
    exact j.tm p hp hs
theorem UJ.mkm (j : UJ s n h0 S a h) (hS : S 0 = false) (hS' : ∀ j, S' j = (S j || j == 0)) : UJ s n h0 S' (a.put (some 5) (.map h.n)) (h.alloc (.amap [])) := by
  have e : ∀ k, k ≠ 0 → S' k = S k := fun k hk => by rw [hS', beq_eq_false_iff_ne.2 hk, Bool.or_false]
  have e0 : S' 0 = true := by rw [hS']; simp
  have hhn : h.n = h0.n := by have := j.hn; rw [hS] at this; exact this
  refine ⟨j.df, ?_, ?_, ?_, ?_, ?_, ?_, ?_⟩
  · intro b hb
    rw [AHeap.get_alloc, if_neg (by omega)]
    exact j.old b hb
  · rw [e0]
    show h.n + 1 = _
    rw [hhn]
    rfl
  · show (a.tm.set 5 _).get 0 = _
    rw [Tr.get_set, if_neg (by decide)]; exact j.t0
  · show (a.tm.set 5 _).get 1 = _
    rw [Tr.get_set, if_neg (by decide)]; exact j.t1
  · intro _
    refine ⟨0, [], by rw [AHeap.get_alloc, if_pos hhn.symm], fun s' n' => ?_⟩
    show some none = _
    unfold uG
    cases eg : unG s' n' with
    | none => rfl
    | some p =>
      obtain ⟨c2, c4, c6, c8, c10⟩ := j.clo
      have no : ∀ {k : Nat}, (S k = true → S 0 = true) → S k = false := fun hk => by
        rename_i k
        cases q : S k with
        | false => rfl
        | true => rw [hk q] at hS; cases hS
      rcases unG_mem eg with ⟨rfl, _⟩ | ⟨rfl, _⟩ | ⟨rfl, _⟩ | ⟨rfl, _⟩ | ⟨rfl, _⟩ <;> simp only []
      · rw [e 2 (by decide), no c2]; rfl
      · rw [e 4 (by decide), no c4]; rfl
      · rw [e 6 (by decide), no c6]; rfl
      · rw [e 8 (by decide), no c8]; rfl
      · rw [e 10 (by decide), no c10]; rfl
  · exact ⟨fun _ => e0, fun _ => e0, fun _ => e0, fun _ => e0, fun _ => e0⟩
  · intro p hp hs
    show (a.tm.set 5 _).get p.2.1 = _
    rw [Tr.get_set]
    simp only [unL, List.mem_cons, List.not_mem_nil, or_false] at hp
    rcases hp with rfl | hp
    · rw [if_pos rfl, hhn]
    · have : p.2.1 ≠ 5 ∧ p.1 ≠ 0 := by rcases hp with rfl | rfl | rfl | rfl | rfl | rfl | rfl | rfl | rfl | rfl | rfl <;> exact ⟨by simp, by simp⟩
      rw [if_neg this.1]
      rw [e p.1 this.2] at hs
      exact j.tm p (by simp only [unL, List.mem_cons, List.not_mem_nil, or_false]; exact .inr hp) hs
end
def unR : List (Nat × MOper) := [oD 0 5 0 (.mkmap), oD 1 6 0 (.build [(.str []), (.int .i64 0)] [(0, 1, (.c (.str [45]))), (1, 1, (.c (.int .i64 1)))]), oE 2 3 (.mapupd (.many [.str, .int]) (.t 5) (.t 6) (.c (.int .i64 1))), oD 3 7 0 (.build [(.str []), (.int .i64 0)] [(0, 1, (.c (.str [45]))), (1, 1, (.c (.int .i64 2)))]), oE 4 9 (.mapupd (.many [.str, .int]) (.t 5) (.t 7) (.c (.int .i64 2))), oD 5 8 0 (.build [(.str []), (.int .i64 0)] [(0, 1, (.c (.str [33]))), (1, 1, (.c (.int .i64 3)))]), oE 6 33 (.mapupd (.many [.str, .int]) (.t 5) (.t 8) (.c (.int .i64 3))), oD 7 9 0 (.build [(.str []), (.int .i64 0)] [(0, 1, (.c (.str [105, 110, 116]))), (1, 1, (.c (.int .i64 2)))]), oE 8 129 (.mapupd (.many [.str, .int]) (.t 5) (.t 9) (.c (.int .i64 1))), oD 9 10 0 (.build [(.str []), (.int .i64 0)] [(0, 1, (.c (.str [102, 108, 111, 97, 116]))), (1, 1, (.c (.int .i64 1)))]), oE 10 513 (.mapupd (.many [.str, .int]) (.t 5) (.t 10) (.c (.int .i64 2))), oD 11 11 2047 (.mov (.t 5)), oD 12 12 0 (.mov (.t 0)), oD 13 13 0 (.mov (.t 1)), oD 14 14 12288 (.build [(.str []), (.int .i64 0)] [(0, 1, (.t 12)), (1, 1, (.t 13))]), oD 15 15 32767 (.lookup (.many [.str, .int]) (.int .i64 0) (.t 11) (.t 14) false), oD 16 4 65535 (.mov (.t 15))]
section
variable {s : List UInt8} {n : Int} {h0 : AHeap}
theorem ev_get {a : AAct} {t : Nat} {v : AV} (h : a.tm.get t = some v) : a.eval (.t t) = v := by show (a.tm.get t).getD undefA = v; rw [h]; rfl
theorem un_ins {S S' : Nat → Bool} {a : AAct} {h : AHeap} (j : UJ s n h0 S a h) {i t : Nat} {sj : List UInt8} {nj vj : Int} (hG : unG sj nj = some (i, vj)) (hS' : ∀ j, S' j = (S j || j == i)) (hS : S i = false) (hS0 : S 0 = true) (hi : i ≠ 0) (hL : ∀ p ∈ unL s n h0.n, p.1 ≠ i)
    (h5 : a.tm.get 5 = some (.map h0.n)) (ht : a.tm.get t = some (uKey sj nj)) : ∃ x h' c, evO a (.mapupd uKT (.t 5) (.t t) (.c (.int .i64 vj))) h = some (.v x h' c) ∧ UJ s n h0 S' (a.put none x) h' := by
  obtain ⟨ver, es, es', h2, h3, j'⟩ := j.ins hG hS' hS hS0 hi hL
  refine ⟨undefA, _, .big, ?_, j'⟩
  simp only [evO, evOp, ev_get h5, ev_get ht, eval_c, keyOk_key, h2, h3, Bool.not_true, cond_false]
theorem un_goes : GoesR unR (UJ s n h0) := by
  intro S S' a h p hp j hS hb hS'
  have tm : ∀ (i t : Nat) (v : AV), (i, t, v) ∈ unL s n h0.n → S i = true → a.tm.get t = some v := fun i t v hm hs => j.tm (i, t, v) hm hs
  simp only [unR, List.mem_cons, List.not_mem_nil, or_false] at hp
  have one : ∀ {i t : Nat} {v : AV}, (i ≠ 0 ∧ i ≠ 2 ∧ i ≠ 4 ∧ i ≠ 6 ∧ i ≠ 8 ∧ i ≠ 10) → (t ≠ 0 ∧ t ≠ 1) → (∀ p ∈ unL s n h0.n, (p.1 = i ∧ p.2.1 = t ∧ p.2.2 = v) ∨ (p.1 ≠ i ∧ p.2.1 ≠ t)) → (∀ j, S' j = (S j || j == i)) → ∀ {op : MOp}, evO a op h = some (.v v h .free) → ∃ x h' c, evO a op h = some (.v x h' c) ∧ UJ s n h0 S' (a.put (some t) x) h' := fun hi ht hL hS' op he => ⟨_, _, _, he, j.free hS' hi ht hL⟩
  have L : ∀ {i t : Nat} {v : AV}, (∀ p ∈ unL s n h0.n, (p.1 = i ∧ p.2.1 = t ∧ p.2.2 = v) ∨ (p.1 ≠ i ∧ p.2.1 ≠ t)) → ∀ p ∈ unL s n h0.n, (p.1 = i ∧ p.2.1 = t ∧ p.2.2 = v) ∨ (p.1 ≠ i ∧ p.2.1 ≠ t) := fun h => h
  have all : ∀ {P : Nat × Nat × AV → Prop}, P (0, 5, .map h0.n) → P (1, 6, uKey [45] 1) → P (3, 7, uKey [45] 2) → P (5, 8, uKey [33] 3) → P (7, 9, uKey [105, 110, 116] 2) → P (9, 10, uKey [102, 108, 111, 97, 116] 1) → P (11, 11, .map h0.n) → P (12, 12, .str s) → P (13, 13, .int .i64 n) → P (14, 14, uKey s n) → P (15, 15, .int .i64 (unF s n)) → P (16, 4, .int .i64 (unF s n)) → ∀ p ∈ unL s n h0.n, P p := by
    intro P q0 q1 q2 q3 q4 q5 q6 q7 q8 q9 q10 q11 p hp
    simp only [unL, List.mem_cons, List.not_mem_nil, or_false] at hp
    rcases hp with rfl | rfl | rfl | rfl | rfl | rfl | rfl | rfl | rfl | rfl | rfl | rfl <;> assumption
  rcases hp with rfl | rfl | rfl | rfl | rfl | rfl | rfl | rfl | rfl | rfl | rfl | rfl | rfl | rfl | rfl | rfl | rfl
  · exact ⟨rfl, _, _, _, rfl, j.mkm hS hS'⟩
  · exact ⟨rfl, one (i := 1) (by decide) (by decide) (by refine all ?_ ?_ ?_ ?_ ?_ ?_ ?_ ?_ ?_ ?_ ?_ ?_ <;> first | exact .inl ⟨rfl, rfl, rfl⟩ | exact .inr ⟨by simp, by simp⟩) hS' rfl⟩
  · have h0' := hb 0 (by decide)
    exact ⟨rfl, un_ins j (i := 2) (sj := [45]) (nj := 1) rfl hS' hS h0' (by decide) (by refine all ?_ ?_ ?_ ?_ ?_ ?_ ?_ ?_ ?_ ?_ ?_ ?_ <;> simp) (tm 0 5 _ (by simp [unL]) h0') (tm 1 6 _ (by simp [unL]) (hb 1 (by decide)))⟩
  · exact ⟨rfl, one (i := 3) (by decide) (by decide) (by refine all ?_ ?_ ?_ ?_ ?_ ?_ ?_ ?_ ?_ ?_ ?_ ?_ <;> first | exact .inl ⟨rfl, rfl, rfl⟩ | exact .inr ⟨by simp, by simp⟩) hS' rfl⟩
  · have h0' := hb 0 (by decide)
    exact ⟨rfl, un_ins j (i := 4) (sj := [45]) (nj := 2) rfl hS' hS h0' (by decide) (by refine all ?_ ?_ ?_ ?_ ?_ ?_ ?_ ?_ ?_ ?_ ?_ ?_ <;> simp) (tm 0 5 _ (by simp [unL]) h0') (tm 3 7 _ (by simp [unL]) (hb 3 (by decide)))⟩
  · exact ⟨rfl, one (i := 5) (by decide) (by decide) (by refine all ?_ ?_ ?_ ?_ ?_ ?_ ?_ ?_ ?_ ?_ ?_ ?_ <;> first | exact .inl ⟨rfl, rfl, rfl⟩ | exact .inr ⟨by simp, by simp⟩) hS' rfl⟩
  · have h0' := hb 0 (by decide)
    exact ⟨rfl, un_ins j (i := 6) (sj := [33]) (nj := 3) rfl hS' hS h0' (by decide) (by refine all ?_ ?_ ?_ ?_ ?_ ?_ ?_ ?_ ?_ ?_ ?_ ?_ <;> simp) (tm 0 5 _ (by simp [unL]) h0') (tm 5 8 _ (by simp [unL]) (hb 5 (by decide)))⟩
  · exact ⟨rfl, one (i := 7) (by decide) (by decide) (by refine all ?_ ?_ ?_ ?_ ?_ ?_ ?_ ?_ ?_ ?_ ?_ ?_ <;> first | exact .inl ⟨rfl, rfl, rfl⟩ | exact .inr ⟨by simp, by simp⟩) hS' rfl⟩
  · have h0' := hb 0 (by decide)
    exact ⟨rfl, un_ins j (i := 8) (sj := [105, 110, 116]) (nj := 2) rfl hS' hS h0' (by decide) (by refine all ?_ ?_ ?_ ?_ ?_ ?_ ?_ ?_ ?_ ?_ ?_ ?_ <;> simp) (tm 0 5 _ (by simp [unL]) h0') (tm 7 9 _ (by simp [unL]) (hb 7 (by decide)))⟩
  · exact ⟨rfl, one (i := 9) (by decide) (by decide) (by refine all ?_ ?_ ?_ ?_ ?_ ?_ ?_ ?_ ?_ ?_ ?_ ?_ <;> first | exact .inl ⟨rfl, rfl, rfl⟩ | exact .inr ⟨by simp, by simp⟩) hS' rfl⟩
  · have h0' := hb 0 (by decide)
    exact ⟨rfl, un_ins j (i := 10) (sj := [102, 108, 111, 97, 116]) (nj := 1) rfl hS' hS h0' (by decide) (by refine all ?_ ?_ ?_ ?_ ?_ ?_ ?_ ?_ ?_ ?_ ?_ ?_ <;> simp) (tm 0 5 _ (by simp [unL]) h0') (tm 9 10 _ (by simp [unL]) (hb 9 (by decide)))⟩
  · have e := tm 0 5 (.map h0.n) (by simp [unL]) (hb 0 (by decide))
    exact ⟨rfl, one (i := 11) (v := .map h0.n) (by decide) (by decide) (by refine all ?_ ?_ ?_ ?_ ?_ ?_ ?_ ?_ ?_ ?_ ?_ ?_ <;> first | exact .inl ⟨rfl, rfl, rfl⟩ | exact .inr ⟨by simp, by simp⟩) hS' (by show some (Res.v (a.eval (.t 5)) h .free) = _; rw [ev_get e])⟩
  · exact ⟨rfl, one (i := 12) (v := .str s) (by decide) (by decide) (by refine all ?_ ?_ ?_ ?_ ?_ ?_ ?_ ?_ ?_ ?_ ?_ ?_ <;> first | exact .inl ⟨rfl, rfl, rfl⟩ | exact .inr ⟨by simp, by simp⟩) hS' (by show some (Res.v (a.eval (.t 0)) h .free) = _; rw [ev_get j.t0])⟩
  · exact ⟨rfl, one (i := 13) (v := .int .i64 n) (by decide) (by decide) (by refine all ?_ ?_ ?_ ?_ ?_ ?_ ?_ ?_ ?_ ?_ ?_ ?_ <;> first | exact .inl ⟨rfl, rfl, rfl⟩ | exact .inr ⟨by simp, by simp⟩) hS' (by show some (Res.v (a.eval (.t 1)) h .free) = _; rw [ev_get j.t1])⟩
  · have e1 := tm 12 12 (.str s) (by simp [unL]) (hb 12 (by decide))
    have e2 := tm 13 13 (.int .i64 n) (by simp [unL]) (hb 13 (by decide))
    refine ⟨rfl, one (i := 14) (v := uKey s n) (by decide) (by decide) (by refine all ?_ ?_ ?_ ?_ ?_ ?_ ?_ ?_ ?_ ?_ ?_ ?_ <;> first | exact .inl ⟨rfl, rfl, rfl⟩ | exact .inr ⟨by simp, by simp⟩) hS' ?_⟩
    simp only [oD, evO, evOp, fillA, ev_get e1, ev_get e2]
    rfl
  · have h0' := hb 0 (by decide)
    have e1 := tm 11 11 (.map h0.n) (by simp [unL]) (hb 11 (by decide))
    have e2 := tm 14 14 (uKey s n) (by simp [unL]) (hb 14 (by decide))
    obtain ⟨ver, es, g1, g2⟩ := j.mp h0'
    refine ⟨rfl, ?_⟩
    have hv : uG S s n = (unG s n).map fun p => .int .i64 p.2 := by
      unfold uG
      cases eg : unG s n with
      | none => rfl
      | some p => rcases unG_mem eg with ⟨rfl, _⟩ | ⟨rfl, _⟩ | ⟨rfl, _⟩ | ⟨rfl, _⟩ | ⟨rfl, _⟩ <;> simp only [hb 2 (by decide), hb 4 (by decide), hb 6 (by decide), hb 8 (by decide), hb 10 (by decide), cond_true, Option.map_some]
    have key : ∃ c, evO a (.lookup uKT (.int .i64 0) (.t 11) (.t 14) false) h = some (.v (.int .i64 (unF s n)) h c) := by
      refine ⟨.big, ?_⟩
      simp only [evO, evOp, ev_get e1, ev_get e2, keyOk_key, g1, g2, hv, Bool.not_true, cond_false]
      unfold unF
      cases unG s n <;> rfl
    obtain ⟨c, he⟩ := key
    exact ⟨_, _, _, he, j.free hS' (i := 15) (t := 15) (by decide) (by decide) (by refine all ?_ ?_ ?_ ?_ ?_ ?_ ?_ ?_ ?_ ?_ ?_ ?_ <;> first | exact .inl ⟨rfl, rfl, rfl⟩ | exact .inr ⟨by simp, by simp⟩)⟩
  · have e := tm 15 15 (.int .i64 (unF s n)) (by simp [unL]) (hb 15 (by decide))
    exact ⟨rfl, one (i := 16) (v := .int .i64 (unF s n)) (by decide) (by decide) (by refine all ?_ ?_ ?_ ?_ ?_ ?_ ?_ ?_ ?_ ?_ ?_ ?_ <;> first | exact .inl ⟨rfl, rfl, rfl⟩ | exact .inr ⟨by simp, by simp⟩) hS' (by show some (Res.v (a.eval (.t 15)) h .free) = _; rw [ev_get e])⟩
end
/-- One block behind the others is given up. -/
theorem comes_kill {ι : Mp} {h h2 : AHeap} {w w' : World} {k : IntKind} {x : Int} {v' : Value} (r : Rel ι h w) (c : Comes1 ι h w (.int k x) h2 v' w') (hn : h2.n = h.n + 1) (old : ∀ b, b < h.n → h2.get b = h.get b) : Comes1 ι h w (.int k x) (h.alloc .dead) v' w' := by
  obtain ⟨ι2, st, r2, vr⟩ := c
  have hinf : ∀ b, b < h.n → infoOf (h.alloc .dead).get b = infoOf h2.get b := fun b hb => by unfold infoOf; rw [AHeap.get_alloc, if_neg (by omega), old b hb]
  have hdead : infoOf (h.alloc .dead).get h.n = .dead := by unfold infoOf; rw [AHeap.get_alloc, if_pos rfl]; rfl
  have hnew : ∀ b, infoOf h2.get b = .dead → infoOf (h.alloc .dead).get b = .dead := fun b hb => by
    by_cases q : b < h.n
    · rw [hinf b q]; exact hb
    · by_cases q2 : b = h.n
      · subst q2; exact hdead
      · exfalso
        unfold infoOf at hb
        cases e : h2.get b with
        | none => rw [e] at hb; cases hb
        | some y => have := r2.lt b y e; omega
  have g2 : Grow ι2 (infoOf h2.get) (wsz w') ι2 (infoOf (h.alloc .dead).get) (wsz w') := ⟨fun _ _ e => e, hnew, fun b o f e x hx hl => by
    by_cases q : b < h.n
    · rw [hinf b q]; exact .inl hl
    · have := r2.dom b x.1 x.2 hx
      have q2 : b = h.n := by omega
      subst q2
      exact .inr hdead, fun _ => Nat.le_refl _⟩
  refine ⟨ι2, ⟨st.grow.trans g2, st.fresh, by simp, st.wn_le, st.keep, fun b c p h1 h2 => ?_, st.oth⟩, ⟨fun b c p hb => ?_, fun b y hb => ?_, fun b c p hb => ?_, fun b b' c p p' h1 h2 ow nd => ?_⟩, ?_⟩
  · rcases st.frm b c p h1 h2 with q | ⟨b0, p0, q1, q2, q3⟩
    · exact .inl q
    · exact .inr ⟨b0, p0, q1, q2, hnew b0 q3⟩
  · have := r2.dom b c p hb
    simp only [AHeap.alloc_n]; omega
  · rw [AHeap.get_alloc] at hb
    simp only [AHeap.alloc_n]
    split at hb
    · omega
    · have := r.lt b y hb; omega
  · obtain ⟨y, e1, e2, e3⟩ := r2.obj b c p hb
    by_cases q : b = h.n
    · subst q
      exact ⟨⟨0, .dead⟩, by rw [AHeap.get_alloc, if_pos rfl], e2, trivial⟩
    · have hb2 : b < h.n := by have := r2.dom b c p hb; omega
      rw [old b hb2] at e1
      exact ⟨y, by rw [AHeap.get_alloc, if_neg q]; exact e1, e2, ORel.mono g2 rfl e3⟩
  · have nb : ∀ {b : Nat}, infoOf (h.alloc .dead).get b ≠ .dead → ∀ c p, ι2 b = some (c, p) → b < h.n := fun {b} hne c p hb => by
      have := r2.dom b c p hb
      by_cases q : b = h.n
      · subst q; exact absurd hdead hne
      · omega
    have hb : b < h.n := nb (by obtain ⟨f, e, q⟩ := ow; rw [q]; intro q2; cases q2) c p h1
    have hb' : b' < h.n := nb nd c p' h2
    refine r2.inj b b' c p p' h1 h2 ?_ ?_
    · obtain ⟨f, e, q⟩ := ow
      exact ⟨f, e, by rw [← hinf b hb]; exact q⟩
    · rw [← hinf b' hb']; exact nd
  · simp only [VR] at vr ⊢
    exact vr
theorem un_init (s : List UInt8) (n : Int) (h : AHeap) : UJ s n h (fun _ => false) ⟨(initTm [.str s, .int .i64 n] 0 .nil).set 4 (.int .i64 0), []⟩ h :=
  ⟨rfl, (fun _ _ => rfl), rfl, rfl, rfl, (fun q => by cases q), ⟨(fun q => by cases q), (fun q => by cases q), (fun q => by cases q), (fun q => by cases q), (fun q => by cases q)⟩, (fun p _ q => by cases q)⟩
theorem pUn_ok : PrimOk Tryz.prog 168 pUn := by
  intro args h res h' e ι w args' gl hr hv
  unfold pUn at e
  split at e
  · rename_i s n
    cases e
    have hc : cFunc Tryz.prog Tryz.f168 = some (.code 16 (.seq (.reg [oT 4 (.mov (.c (.int .i64 0)))]) (.seq (.regD unR) .ret)) [.t 4]) := c168
    have q := fun_any hmixU Tryz.func168 hc (args := [.str s, .int .i64 n]) (h := h) (h1 := h) (a1 := ⟨(initTm [.str s, .int .i64 n] 0 .nil).set 4 (.int .i64 0), []⟩) (by simp) rfl (by decide) un_goes (un_init s n h) (x := .int .i64 (unF s n)) (Good := fun h2 => h2.n = h.n + 1 ∧ ∀ b, b < h.n → h2.get b = h.get b)
      (fun S a2 h2 hall j => by
        have m0 : S 0 = true := hall (unR[0]) (by simp [unR])
        have m16 : S 16 = true := hall (unR[16]) (by simp [unR])
        refine ⟨j.df, ?_, ?_, j.old⟩
        · have := j.tm (16, 4, .int .i64 (unF s n)) (by simp [unL]) m16
          simp only [resA, this]
        · have := j.hn
          rw [m0] at this
          exact this) gl hr hv
    refine q.mono ?_ ?_
    · rintro v w2 ⟨h2, ⟨g1, g2⟩, c⟩
      exact ⟨_, rfl, comes_kill hr c g1 g2⟩
    · rintro v w2 k
      exact k.elim
  · cases e
theorem pUn_h : ∀ args h r h', pUn args h = some (r, h') → HSt h h' := by
  intro args h r h' e
  unfold pUn at e
  split at e
  · cases e
    exact HSt.alloc _ _
  · cases e
end Go.Ev
