/- From the evaluator's answer to the row: the first heap, the run, what a call leaves. -/
import Derived.Test.YteaoocedcjijdaaGreatDoorEvC
import Derived.Test.YteaoocedcjijdaaGreatDoorEvB
import Derived.Below
import Derived.Handed
import Derived.Stop.LaidErr
import Derived.ProofKit
set_option linter.all false
set_option linter.unusedVariables false
set_option linter.unusedSimpArgs false
namespace Go.Ev
open Go Go.ChangeShapes Go.WideShapes Go.RowKit

/-- Facts on all of a table's entries. -/
def Tr.AllP {α : Type} (p : Nat → α → Prop) : Tr α → (Nat → Nat) → Prop
  | .nil, _ => True
  | .node l v r, g => (∀ x, v = some x → p (g 0) x) ∧ Tr.AllP p l (fun k => g (2 * k + 1)) ∧ Tr.AllP p r (fun k => g (2 * k + 2))
theorem Tr.all_get {α : Type} {p : Nat → α → Prop} : ∀ {t : Tr α} {g : Nat → Nat} {n : Nat} {x : α}, Tr.AllP p t g → t.get n = some x → p (g n) x
  | .nil, g, n, x, _, h => by simp [Tr.get] at h
  | .node l v r, g, n, x, ha, h => by
    obtain ⟨h0, hl, hr⟩ := ha
    unfold Tr.get at h
    by_cases e : n = 0
    · subst e
      rw [Nat.beq_refl] at h
      exact h0 x h
    · rw [beqF e] at h
      simp only [cond_false] at h
      by_cases e1 : n % 2 = 1
      · rw [beqT e1] at h
        have := Tr.all_get hl h
        rwa [show 2 * (n / 2) + 1 = n by omega] at this
      · rw [beqF e1] at h
        have := Tr.all_get hr h
        rwa [show 2 * (n / 2 - 1) + 2 = n by omega] at this
def FRow (P : Program) (f : Nat) (m : MFun) : Prop :=
  match m with
  | .prim p => PrimOk P f p
  | .code nt body res => ∃ fn, P.funcs[f]? = some fn ∧ (cFunc P fn = some (.code nt body res) ∨ (NoRec body ∧ (∃ m0, cFunc P fn = some (.code nt m0 res)) ∧ BodyOk P fn nt body))
def MFun.isCode : MFun → Bool
  | .code _ _ _ => true
  | .prim _ => false
theorem FRow.code {P : Program} {f : Nat} {fn : Func} {m : MFun} (hf : P.funcs[f]? = some fn) (hc : cFunc P fn = some m) (hm : m.isCode = true) : ∀ x, some m = some x → FRow P f x := by
  intro x e
  cases e
  cases m with
  | code nt body res => exact ⟨fn, hf, .inl hc⟩
  | prim p => cases hm
theorem FRow.no {P : Program} {f : Nat} : ∀ x, (none : Option MFun) = some x → FRow P f x := fun _ e => by cases e
theorem FRow.prim {P : Program} {f : Nat} {p : List AV → AHeap → Option (CRes × AHeap)} (h : PrimOk P f p) : ∀ x, some (MFun.prim p) = some x → FRow P f x := fun x e => by cases e; exact h
theorem fok_of {P : Program} {t : Tr MFun} (h : Tr.AllP (FRow P) t (fun n => n)) : FOk P t.get := fun f m e => by
  have := Tr.all_get h e
  exact this

def PRow (_ : Nat) (m : MFun) : Prop := ∀ p, m = .prim p → ∀ args h r h', p args h = some (r, h') → HSt h h'
theorem PRow.no {f : Nat} : ∀ x, (none : Option MFun) = some x → PRow f x := fun _ e => by cases e
theorem PRow.code {f : Nat} {m : MFun} (hm : m.isCode = true) : ∀ x, some m = some x → PRow f x := fun x e => by
  cases e
  intro p e2
  subst e2
  cases hm
theorem PRow.prim {f : Nat} {p : List AV → AHeap → Option (CRes × AHeap)} (h : ∀ args h r h', p args h = some (r, h') → HSt h h') : ∀ x, some (MFun.prim p) = some x → PRow f x := fun x e => by
  cases e
  intro q e2
  cases e2
  exact h
theorem primsH_of {t : Tr MFun} (h : Tr.AllP PRow t (fun n => n)) : PrimsH t.get := fun _ p e => Tr.all_get h e p rfl

/-- A sentinel as the program's initialiser lays it. -/
def SentAt (W : World) (T : TypeId) (g : Nat) (text : List UInt8) (c o : Nat) : Prop :=
  (∃ Tg, W.heap[g]? = some (.cells #[.iface T (.pointer (some ⟨c, o, none⟩))] Tg (0, 0))) ∧ ∃ cs Tc, W.heap[c]? = some (.cells cs Tc (0, 0)) ∧ cs[o]? = some (.string ⟨⟨text⟩⟩)

theorem laid_head {P : Program} {n nm : String} {text : List UInt8} {r : List (String × DataW Unit)} {W : World} {g : Nat} {ti tp te ts : TypeId} {ms : Array (String × TypeId)} {f : Field}
    (h : laidMet P ((n, .iface nm (.ptr (.agg [.lit (.string text)]))) :: r) W)
    (hg : P.globalNamed n = some g) (ht : (P.globals[g]?).map (·.type) = some ti) (hi : P.underlying ti = some (.interface ms)) (hrow : ∀ u, P.typeName? 3 u = some nm → u = tp)
    (hp : P.underlying tp = some (.pointer te)) (he : P.underlying te = some (.struct #[f])) (hft : f.type = ts) (hfo : f.offset = 0) (hs : P.underlying ts = some .string) (hc : P.cellsOf te = 1) (hcs : P.cellsOf ts = 1) :
    ∃ c o, SentAt W tp g text c o := by
  obtain ⟨ps, ⟨g0, t0, cs0, f0, p0, q0, hg0, ht0, hv0, hd0, _, e0⟩, _, hrows⟩ := h
  obtain rfl := Option.some.inj (hg.symm.trans hg0)
  obtain rfl := Option.some.inj (ht.symm.trans ht0)
  subst e0
  obtain ⟨l0⟩ := cs0
  have ok0 : ∀ u v, l0 = [.iface u v] → Value.okWide P W .any 0 u v := fun u v e => by
    subst e
    exact (hrows g 0 (by simp [MemPlace.row])).2 u v (by simpa using World.var?_cell hg0 hv0 0)
  obtain ⟨a, s, rfl, hc0, hs0, _, rfl⟩ := errorString_of_trod hi hrow hp he hft hfo hs hc hcs hd0 ok0
  obtain ⟨cg, tg, hbg⟩ := (hrows g 0 (by simp [MemPlace.row])).1
  obtain ⟨ca, ta, hba⟩ := (hrows a.block a.off (by simp [MemPlace.row])).1
  have hvar : W.heap[g]? = some (.cells #[.iface tp (.pointer (some a))] tg (0, 0)) := by
    have h1 := hv0
    unfold World.var? at h1
    rw [hg, Option.bind_some, hbg] at h1
    simp only [Option.some.injEq] at h1
    rw [hbg, h1]
  obtain ⟨c, o, sp⟩ := a
  have hcell := hc0
  unfold World.cell? at hcell
  simp only at hba hcell
  rw [hba] at hcell
  simp only at hcell
  cases sp with
  | some x => simp at hcell
  | none =>
    simp only [Option.isSome_none, Bool.false_eq_true, if_false] at hcell
    refine ⟨c, o, ⟨tg, hvar⟩, ca, ta, hba, ?_⟩
    rw [hcell, ← hs0]

/-- All of a list of sentinels. -/
def laidRow {H : Type} (nm : String) (x : String × List UInt8) : String × DataW H := (x.1, .iface nm (.ptr (.agg [.lit (.string x.2)])))
theorem laid_all {P : Program} {nm : String} {W : World} {ti tp te ts : TypeId} {ms : Array (String × TypeId)} {f : Field}
    (hi : P.underlying ti = some (.interface ms)) (hrow : ∀ u, P.typeName? 3 u = some nm → u = tp)
    (hp : P.underlying tp = some (.pointer te)) (he : P.underlying te = some (.struct #[f])) (hft : f.type = ts) (hfo : f.offset = 0) (hs : P.underlying ts = some .string) (hc : P.cellsOf te = 1) (hcs : P.cellsOf ts = 1) :
    ∀ (L : List (String × List UInt8)) (gs : List Nat), laidMet P (L.map (laidRow nm)) W → L.map (fun x => P.globalNamed x.1) = gs.map some → (∀ g ∈ gs, (P.globals[g]?).map (·.type) = some ti) → ∀ (i g : Nat) (text : List UInt8), gs[i]? = some g → (L[i]?).map (fun x : String × List UInt8 => x.2) = some text → ∃ c o, SentAt W tp g text c o
  | [], _, _, _, _, i, g, text, _, h2 => by simp at h2
  | x :: L, [], _, h, _, _, _, _, _, _ => by simp at h
  | x :: L, g0 :: gs, hL, hn, ht, i, g, text, h1, h2 => by
    simp only [List.map_cons, List.cons.injEq] at hn
    cases i with
    | zero =>
      simp at h1 h2
      subst h1 h2
      exact laid_head hL hn.1 (ht _ (List.mem_cons_self)) hi hrow hp he hft hfo hs hc hcs
    | succ i =>
      simp only [List.getElem?_cons_succ] at h1 h2
      exact laid_all hi hrow hp he hft hfo hs hc hcs L gs hL.tail hn.2 (fun g hg => ht g (List.mem_cons_of_mem _ hg)) i g text h1 h2

/-- The first heap: so many variables, the first of them errors; their texts; what the arguments hold. -/
def heap0 (T NG K : Nat) (kn : Nat → Bool) (txt : Nat → List UInt8) (m : Nat) (xs : Nat → AObj) : AHeap :=
  mkHeap (fun b => (if b < K then (if kn b = true then some ⟨0, .cells .ro 0 [.iface T (.ptr (NG + b) 0)]⟩ else some ⟨0, .dead⟩) else if b < NG then some ⟨0, .dead⟩ else if b < NG + K then (if kn (b - NG) = true then some ⟨0, .cells .sent 0 [.str (txt (b - NG))]⟩ else some ⟨0, .dead⟩) else some ⟨0, xs (b - (NG + K))⟩)) (NG + K + m)
def iota0 (NG K : Nat) (c o : Nat → Nat) (m : Nat) (xi : Nat → Nat × Nat) : Mp := fun b =>
  if b < NG then some (b, 0) else if b < NG + K then some (c (b - NG), o (b - NG)) else if b < NG + K + m then some (xi (b - (NG + K))) else none
theorem heap0_get {T NG K : Nat} {kn : Nat → Bool} {txt : Nat → List UInt8} {m : Nat} {xs : Nat → AObj} (b : Nat) : (heap0 T NG K kn txt m xs).get b = if b < NG + K + m then (if b < K then (if kn b = true then some ⟨0, .cells .ro 0 [.iface T (.ptr (NG + b) 0)]⟩ else some ⟨0, .dead⟩) else if b < NG then some ⟨0, .dead⟩ else if b < NG + K then (if kn (b - NG) = true then some ⟨0, .cells .sent 0 [.str (txt (b - NG))]⟩ else some ⟨0, .dead⟩) else some ⟨0, xs (b - (NG + K))⟩) else none := mkHeap_get _ _ _
theorem heap0_n {T NG K : Nat} {kn : Nat → Bool} {txt : Nat → List UInt8} {m : Nat} {xs : Nat → AObj} : (heap0 T NG K kn txt m xs).n = NG + K + m := rfl

section
variable {P : Program} {T K : Nat} {kn : Nat → Bool} {txt : Nat → List UInt8} {m : Nat} {xs : Nat → AObj} {xi : Nat → Nat × Nat} {c o : Nat → Nat} {W : World}

theorem rel0 (hK : K ≤ P.globals.size) (hsz : P.globals.size ≤ W.heap.size) (hs : ∀ g, g < K → kn g = true → SentAt W T g (txt g) (c g) (o g)) (hc0 : ∀ g, g < K → kn g = false → c g < W.heap.size)
    (hro : ∀ j, j < m → ∃ es vs, xs j = .cells .ro es vs)
    (hx : ∀ j, j < m → (xi j).1 < W.heap.size ∧ ORel (iota0 P.globals.size K c o m xi) (infoOf (heap0 T P.globals.size K kn txt m xs).get) (wsz W) W (xi j).1 (xi j).2 (xs j)) :
    Rel (iota0 P.globals.size K c o m xi) (heap0 T P.globals.size K kn txt m xs) W where
  dom b c' p e := by
    rw [heap0_n]
    unfold iota0 at e
    split at e
    · omega
    · split at e
      · omega
      · split at e
        · assumption
        · cases e
  lt b x e := by
    rw [heap0_get] at e
    rw [heap0_n]
    split at e
    · assumption
    · cases e
  obj b c' p e := by
    have hi : ∀ b, iota0 P.globals.size K c o m xi b = if b < P.globals.size then some (b, 0) else if b < P.globals.size + K then some (c (b - P.globals.size), o (b - P.globals.size)) else if b < P.globals.size + K + m then some (xi (b - (P.globals.size + K))) else none := fun _ => rfl
    rw [hi] at e
    by_cases h1 : b < P.globals.size
    · rw [if_pos h1] at e
      cases e
      by_cases h2 : b < K
      · cases hk : kn b with
        | false => exact ⟨⟨0, .dead⟩, by rw [heap0_get, if_pos (by omega), if_pos h2, if_neg (by rw [hk]; exact Bool.false_ne_true)], by omega, trivial⟩
        | true =>
        obtain ⟨⟨Tg, hg⟩, cs, Tc, hc, ho⟩ := hs b h2 hk
        refine ⟨⟨0, .cells .ro 0 [.iface T (.ptr (P.globals.size + b) 0)]⟩, by rw [heap0_get, if_pos (by omega), if_pos h2, if_pos hk], by omega, _, _, _, _, hg, ?_, fun h => absurd rfl h, fun h => by cases h⟩
        intro i x hx
        cases i with
        | succ i => simp at hx
        | zero =>
          simp at hx
          subst hx
          refine ⟨_, rfl, ?_⟩
          simp only [VR]
          refine ⟨_, rfl, _, rfl, .inr ⟨c b, o b, ?_, rfl⟩⟩
          rw [hi, if_neg (by omega), if_pos (by omega), Nat.add_sub_cancel_left]
      · exact ⟨⟨0, .dead⟩, by rw [heap0_get, if_pos (by omega), if_neg h2, if_pos h1], by omega, trivial⟩
    · rw [if_neg h1] at e
      by_cases h2 : b < P.globals.size + K
      · rw [if_pos h2] at e
        cases e
        cases hk : kn (b - P.globals.size) with
        | false => exact ⟨⟨0, .dead⟩, by rw [heap0_get, if_pos (by omega), if_neg (by omega), if_neg h1, if_pos h2, if_neg (by rw [hk]; exact Bool.false_ne_true)], hc0 _ (by omega) hk, trivial⟩
        | true =>
        obtain ⟨_, cs, Tc, hc, ho⟩ := hs (b - P.globals.size) (by omega) hk
        refine ⟨⟨0, .cells .sent 0 [.str (txt (b - P.globals.size))]⟩, by rw [heap0_get, if_pos (by omega), if_neg (by omega), if_neg h1, if_pos h2, if_pos hk], ?_, _, _, _, _, hc, ?_, fun _ => ⟨rfl, rfl⟩, fun h => by cases h⟩
        · rcases Nat.lt_or_ge (c (b - P.globals.size)) W.heap.size with h | h
          · exact h
          · rw [Array.getElem?_eq_none h] at hc; cases hc
        · intro i x hx
          cases i with
          | succ i => simp at hx
          | zero =>
            simp at hx
            subst hx
            exact ⟨_, ho, by simp only [VR]⟩
      · rw [if_neg h2] at e
        split at e
        · rename_i h3
          have e' := Option.some.inj e
          obtain ⟨g1, g2⟩ := hx (b - (P.globals.size + K)) (by omega)
          rw [e'] at g1 g2
          exact ⟨⟨0, xs (b - (P.globals.size + K))⟩, by rw [heap0_get, if_pos h3, if_neg (by omega), if_neg h1, if_neg h2], g1, g2⟩
        · cases e
  inj b b' c' p p' _ _ ow _ := by
    obtain ⟨f, e, h⟩ := ow
    exfalso
    unfold infoOf at h
    rw [heap0_get] at h
    split at h
    · rename_i x hx
      split at hx
      · split at hx
        · split at hx <;> (cases hx; cases h)
        · split at hx
          · cases hx; cases h
          · split at hx
            · split at hx <;> (cases hx; cases h)
            · rename_i h1 h2 h3 h4
              cases hx
              obtain ⟨es, vs, e2⟩ := hro (b - (P.globals.size + K)) (by omega)
              rw [e2] at h
              cases h
      · cases hx
    · cases h
theorem iota0_glob : Glob P (iota0 P.globals.size K c o m xi) := fun g hg => by unfold iota0; rw [if_pos hg]

/-- What a law's walk gives. -/
theorem run0 {F : FT} (hF : FOk P F) (hp : PrimsH F) (hmix : P.follows .mixedOrders = true) {f : FuncId} {fn : Func} (hfn : P.funcs[f]? = some fn) (hb : fn.body.isSome = true) (hn : (fn.name == "runtime.NumGoroutine") = false)
    (hr : Rel (iota0 P.globals.size K c o m xi) (heap0 T P.globals.size K kn txt m xs) W) (hro : ∀ j, j < m → ∃ es vs, xs j = .cells .ro es vs) {args : List AV} {args' : Array Value}
    (hv : VRL (iota0 P.globals.size K c o m xi) (infoOf (heap0 T P.globals.size K kn txt m xs).get) (wsz W) args args'.toList)
    (he : WF F f args (heap0 T P.globals.size K kn txt m xs) (fun r _ => r = .ret (.bool true))) :
    Calls P f args' W fun e W' => e = .returned (.bool true) ∧ Below W.heap.size W W' := by
  obtain ⟨r, h', ⟨k0, hk⟩, rfl⟩ := he.ev
  have hc := calls_sound hF hp hmix k0 f args _ _ _ (hk k0 (Nat.le_refl _)) _ W args' iota0_glob hr hv
  unfold CallGives at hc
  obtain ⟨body, hbody⟩ := Option.isSome_iff_exists.1 hb
  have hne : fn.name ≠ "runtime.NumGoroutine" := by simpa using hn
  have e : (callFunc f args').run P W = .ok (.enter f args') W := by simp [callFunc, hfn, hbody, hne, Sem.run]
  rw [e] at hc
  refine hc.mono ?_
  rintro e W' (⟨v, rfl, x, hx, ι', st, _, hvv⟩ | ⟨v, rfl, x, hx, _⟩)
  · cases hx
    simp only [VR] at hvv
    subst hvv
    refine ⟨rfl, st.oth.1, st.oth.2.2, st.oth.2.1, st.wn_le, fun k hk => st.keep k hk fun b p _ ow => ?_⟩
    obtain ⟨f, e, h⟩ := ow
    unfold infoOf at h
    rw [heap0_get] at h
    split at h
    · rename_i x hx
      split at hx
      · split at hx
        · split at hx <;> (cases hx; cases h)
        · split at hx
          · cases hx; cases h
          · split at hx
            · split at hx <;> (cases hx; cases h)
            · rename_i h1 h2 h3 h4
              cases hx
              obtain ⟨es, vs, e2⟩ := hro (b - (P.globals.size + K)) (by omega)
              rw [e2] at h
              cases h
      · cases hx
    · cases h
  · cases hx
end

section
variable {H : Type} {enc : TypeId × Value → H}
/-- The kit's builder, with one fact more: the variables' blocks are there. -/
theorem returns_open {a : Assume} {C : Checked} {os : Os} {f : FuncId} {fn : Func} {s : ChangeSpec} {conds : List PathCond} {apart fresh handsOn again : Bool} {X : World → Array Value → Prop}
    (hX : ∀ (w w' : World) (args : Array Value), w.heap = w'.heap → X w args → X w' args)
    (own : ownKnob C.prog.godebug = none) (started : os.Started) (noInit : C.prog.inits.idxOf? f = none) (hfn : C.prog.funcs[f]? = some fn)
    (h0 : C.prog.globals.size < (begin C.prog (fun _ _ => 0) default).world.heap.size)
    (witness : ∃ (w : World) (tape : Tape) (i : Input), w.os = os ∧ (w.forCall tape i).Shaped C.prog ∧ i.vars = [] ∧ Input.okWide C.prog (w.forCall tape i) .any w.heap.size f i ∧
      ((s.pre enc C.prog fn conds apart (w.forCall tape i).memory i.args ∧ X (w.forCall tape i).memory i.args) ∧ sizedMet enc C.prog fn (OpenSpec.ofChange s) apart (w.forCall tape i).memory i.args) ∧ a.holds C.prog (lone (Frame.enter C.prog f i.args .normal) [] (w.forCall tape i)))
    (contract : ∀ (W : World) (base : Nat) (args : Array Value) (ds gs : List (DataW H)) (before : List MemPlace), C.prog.globals.size ≤ W.heap.size →
      (∀ (j : Nat) t v, fn.params[j]? = some t → args[j]? = some v → Value.okWide C.prog W .any base t v) →
      DataW.Whole enc C.prog fn.params.toList s.vars apart W args.toList ds gs before →
      conds.all (PathCond.test C.prog ⟨fn.params.toList, ds, s.plain.varTypes C.prog, gs⟩) = true →
      (DataW.weightsEach C.prog (fn.params.toList ++ s.plain.varTypes C.prog) (ds ++ gs)).all (· ≤ reachBytes) = true → X W args →
      a.holds C.prog (lone (Frame.enter C.prog f args .normal) [] W) →
      Calls C.prog f args W fun e W' => ∃ v, e = .returned v ∧ s.post enc C.prog fn apart fresh handsOn again W args v W') :
    ReturnsInHanded a C os f .any (fun w args => (s.pre enc C.prog fn conds apart w args ∧ X w args) ∧ sizedMet enc C.prog fn (OpenSpec.ofChange s) apart w args) (s.post enc C.prog fn apart fresh handsOn again) := by
  refine returnsInHanded_of_calls own started noInit witness ?_
  intro w tape i _ hshape _ hok hpre hholds
  obtain ⟨_, _, _, fn', hfn', _, _, _, _, hval⟩ := hok
  have e : fn' = fn := Option.some.inj (hfn'.symm.trans hfn)
  subst e
  obtain ⟨⟨⟨ds, gs, before, hw, hc⟩, hx⟩, hz⟩ := hpre
  have hsz : C.prog.globals.size ≤ (w.forCall tape i).heap.size := by
    obtain ⟨o, _, ho, _⟩ := hshape.2 C.prog.globals.size (Nat.le_refl _) h0
    rcases Nat.lt_or_ge C.prog.globals.size (w.forCall tape i).heap.size with h | h
    · omega
    · rw [Array.getElem?_eq_none h] at ho; cases ho
  have hw' := DataW.Whole.of_heap (w' := w.forCall tape i) (by rfl) hw
  refine (contract (w.forCall tape i) w.heap.size i.args ds gs before hsz hval hw' hc (hz.weights hw) (hX _ _ _ (by rfl) hx) hholds).mono fun e W' ⟨v, he, hp⟩ => ?_
  subst he
  exact ChangeSpec.post_blind hp
end
end Go.Ev
/- A function that was run once, on the first blocks alone, as a primitive at every heap that has them. -/
namespace Go.Ev
open Go

/-- What is told without any block. -/
def Plain (v : AV) : Prop := ∀ ι I sz ι' I' sz' x, VR ι I sz v x → VR ι' I' sz' v x
def PlainL (l : List AV) : Prop := ∀ ι I sz ι' I' sz' x, VRL ι I sz l x → VRL ι' I' sz' l x
theorem plain_bool (b : Bool) : Plain (.bool b) := fun _ _ _ _ _ _ x h => by simpa only [VR] using h
theorem plain_str (s : List UInt8) : Plain (.str s) := fun _ _ _ _ _ _ x h => by simpa only [VR] using h
theorem plainL_nil : PlainL [] := fun _ _ _ _ _ _ x h => by simpa only [VRL] using h
/-- A heap of a door: variables of errors, and what they point to. -/
structure LowOk (h0 : AHeap) : Prop where
  lt : ∀ b x, h0.get b = some x → b < h0.n
  all : ∀ b, b < h0.n → ∃ x, h0.get b = some x ∧ (x.o = .dead ∨ (∃ t b', x.o = .cells .ro 0 [.iface t (.ptr b' 0)] ∧ ∃ x', h0.get b' = some x' ∧ x'.o ≠ .dead) ∨ ∃ s, x.o = .cells .sent 0 [.str s])
def LowEq (h0 h : AHeap) : Prop := h0.n ≤ h.n ∧ ∀ b x, h0.get b = some x → x.o = .dead ∨ h.get b = some x
theorem LowOk.noOwn {h0 : AHeap} (ok : LowOk h0) : ∀ b, ¬ OwnL h0 b := by
  rintro b ⟨f, s, h⟩
  unfold infoOf at h
  split at h
  · rename_i x hx
    obtain ⟨x', h1, h2⟩ := ok.all b (ok.lt b x hx)
    rw [hx] at h1
    cases h1
    rcases h2 with e | ⟨t, b', e, _⟩ | ⟨s, e⟩ <;> rw [e] at h <;> cases h
  · cases h
theorem Rel.low {ι : Mp} {h h0 : AHeap} {W : World} (r : Rel ι h W) (ok : LowOk h0) (le : LowEq h0 h) : Rel (fun b => if b < h0.n then ι b else none) h0 W where
  dom b c p e := by
    split at e
    · assumption
    · cases e
  lt := ok.lt
  obj b c p e := by
    split at e
    · rename_i hb
      obtain ⟨x, h1, h2⟩ := ok.all b hb
      obtain ⟨y, h3, h4, h5⟩ := r.obj b c p e
      refine ⟨x, h1, h4, ?_⟩
      rcases h2 with e2 | ⟨t, b', e2, x', hx', hn⟩ | ⟨s, e2⟩
      · rw [e2]; exact trivial
      · have hy : h.get b = some x := (le.2 b x h1).resolve_left (by rw [e2]; intro q; cases q)
        rw [hy] at h3
        cases h3
        rw [e2] at h5 ⊢
        obtain ⟨cs, T, lo, hi, g1, g2, g3, g4⟩ := h5
        refine ⟨cs, T, lo, hi, g1, fun i z hz => ?_, g3, g4⟩
        obtain ⟨v, k1, k2⟩ := g2 i z hz
        refine ⟨v, k1, ?_⟩
        have hb' : b' < h0.n := ok.lt b' x' hx'
        have hq : h.get b' = some x' := (le.2 b' x' hx').resolve_left hn
        have hz' : z = .iface t (.ptr b' 0) := by
          cases i with
          | zero => simpa using hz.symm
          | succ i => simp at hz
        subst hz'
        simp only [VR] at k2 ⊢
        obtain ⟨w1, w2, a, w3, w4⟩ := k2
        refine ⟨w1, w2, a, w3, ?_⟩
        have hi' : infoOf h0.get b' = infoOf h.get b' := by unfold infoOf; rw [hq, hx']
        rw [hi', if_pos hb']
        exact w4
      · have hy : h.get b = some x := (le.2 b x h1).resolve_left (by rw [e2]; intro q; cases q)
        rw [hy] at h3
        cases h3
        rw [e2] at h5 ⊢
        obtain ⟨cs, T, lo, hi, g1, g2, g3, g4⟩ := h5
        refine ⟨cs, T, lo, hi, g1, fun i z hz => ?_, g3, g4⟩
        obtain ⟨v, k1, k2⟩ := g2 i z hz
        have hz' : z = .str s := by
          cases i with
          | zero => simpa using hz.symm
          | succ i => simp at hz
        subst hz'
        exact ⟨v, k1, plain_str s _ _ _ _ _ _ _ k2⟩
    · cases e
  inj b _ _ _ _ _ _ ow _ := absurd ow (ok.noOwn b)

theorem CallGives.mono {P : Program} {f : FuncId} {args : Array Value} {w : World} {φ ψ φ' ψ' : Value → World → Prop} (h : CallGives P f args w φ ψ) (h1 : ∀ v w, φ v w → φ' v w) (h2 : ∀ v w, ψ v w → ψ' v w) : CallGives P f args w φ' ψ' := by
  unfold CallGives at h ⊢
  split
  · rename_i g as w1 e
    rw [e] at h
    refine Calls.mono h ?_
    rintro e w (⟨v, a, b⟩ | ⟨v, a, b⟩)
    · exact .inl ⟨v, a, h1 _ _ b⟩
    · exact .inr ⟨v, a, h2 _ _ b⟩
  · rename_i v w1 e
    rw [e] at h
    exact h1 _ _ h
  · rename_i n1 n2
    split at h
    · rename_i g as w1 e; exact n1 _ _ _ e
    · rename_i v w1 e; exact n2 _ _ e
    · exact h

open Classical in
/-- A function that is told by what its runs on the first blocks gave. -/
noncomputable def runP (h0 : AHeap) (g : List AV → Option AV) (args : List AV) (h : AHeap) : Option (CRes × AHeap) :=
  match g args with
  | some r => if LowEq h0 h then some (.ret r, h) else none
  | none => none
theorem runP_eq {h0 h : AHeap} {g : List AV → Option AV} {args : List AV} {r : AV} (hg : g args = some r) (hl : LowEq h0 h) : runP h0 g args h = some (.ret r, h) := by
  unfold runP
  rw [hg]
  simp only [if_pos hl]
theorem runP_inv {h0 h h' : AHeap} {g : List AV → Option AV} {args : List AV} {res : CRes} (e : runP h0 g args h = some (res, h')) : ∃ r, g args = some r ∧ LowEq h0 h ∧ res = .ret r ∧ h = h' := by
  unfold runP at e
  split at e
  · rename_i r hr
    split at e
    · rename_i hl
      cases e
      exact ⟨r, hr, hl, rfl, rfl⟩
    · cases e
  · cases e
theorem runP_ok {P : Program} {F0 : Nat → Option MFun} (hF : FOk P F0) (hp : PrimsH F0) (hmix : P.follows .mixedOrders = true) {h0 : AHeap} (ok : LowOk h0) (hG : P.globals.size ≤ h0.n) {f : FuncId} {g : List AV → Option AV} (hg : ∀ args r, g args = some r → PlainL args ∧ Plain r ∧ ∃ k h1, evCall F0 k f args h0 = some (.ret r, h1)) : PrimOk P f (runP h0 g) := by
  intro args h res h' e ι w args' gl hr hv
  obtain ⟨r, hgr, le, rfl, rfl⟩ := runP_inv e
  obtain ⟨pa, pr, k, h1, hrun⟩ := hg _ _ hgr
  have hr0 := hr.low ok le
  have hc := calls_sound hF hp hmix k f args h0 _ _ hrun _ w args' (fun g hg => (if_pos (by omega)).trans (gl g hg)) hr0 (pa _ _ _ _ _ _ _ hv)
  refine hc.mono ?_ ?_
  · rintro v w' ⟨x, e1, ι', st, rl, vv⟩
    cases e1
    have keep : ∀ c, c < w.heap.size → w'.heap[c]? = w.heap[c]? := fun c hc => st.keep c hc fun b p _ ow => ok.noOwn b ow
    have gr : Grow ι (infoOf h.get) (wsz w) ι (infoOf h.get) (wsz w') := ⟨fun _ _ e => e, fun _ e => e, fun _ _ _ _ _ _ e => .inl e, st.grow.sz⟩
    refine ⟨r, rfl, ι, ⟨gr, fun b x h1 h2 => (by rw [h1] at h2; cases h2), Nat.le_refl _, st.wn_le, fun c hc _ => keep c hc, fun b c p h1 h2 => (by rw [h1] at h2; cases h2), st.oth⟩, ⟨hr.dom, hr.lt, fun b c p hb => ?_, hr.inj⟩, pr _ _ _ _ _ _ _ vv⟩
    obtain ⟨x, q1, q2, q3⟩ := hr.obj b c p hb
    exact ⟨x, q1, Nat.lt_of_lt_of_le q2 st.wn_le, ORel.mono gr (keep c q2) q3⟩
  · rintro v w' ⟨x, e1, _⟩
    cases e1
theorem runP_h {h0 h h' : AHeap} {g : List AV → Option AV} {args : List AV} {r : CRes} (e : runP h0 g args h = some (r, h')) : HSt h h' := by
  obtain ⟨_, _, _, _, rfl⟩ := runP_inv e
  exact HSt.refl _

end Go.Ev
