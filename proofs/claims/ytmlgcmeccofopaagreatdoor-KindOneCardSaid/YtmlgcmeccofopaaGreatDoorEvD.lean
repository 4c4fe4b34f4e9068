/- A function whose one great region is told by an invariant, whatever the order. -/
import Derived.Test.YtmlgcmeccofopaaGreatDoorEvC
set_option linter.all false
set_option linter.unusedVariables false
set_option linter.unusedSimpArgs false
namespace Go.Ev
open Go
section
variable {P : Program}

theorem code_seq {nt : Nat} {c : Code} {x y : MCode} (h : cCode P nt c = some (.seq x y)) : ∃ a b, c = .seq a b ∧ cCode P nt a = some x ∧ cCode P nt b = some y := by
  cases c with
  | seq a b =>
    simp only [cCode] at h
    split at h
    · rename_i x' y' h1 h2
      cases h
      exact ⟨a, b, rfl, h1, h2⟩
    · cases h
  | region id ops draw =>
    simp only [cCode] at h
    split at h
    · cases draw with
      | false => simp only [cond_false] at h; cases h
      | true =>
        rename_i l _
        simp only [cond_true] at h
        cases hq : (tempsOk ops (CheckFast.beforeF ops) && opdsOk l ops.toList) <;> rw [hq] at h <;> cases h
    · cases h
  | _ => simp only [cCode] at h; first | (cases h; done) | (split at h <;> cases h)
theorem code_regD {nt : Nat} {c : Code} {rl : List (Nat × MOper)} (h : cCode P nt c = some (.regD rl)) : ∃ id ops l, c = .region id ops true ∧ cOpers P nt ops true (CheckFast.beforeF ops) 0 ops.toList = some l ∧ rl = reorder l := by
  cases c with
  | region id ops draw =>
    cases draw with
    | false =>
      simp only [cCode, cond_false] at h
      split at h <;> cases h
    | true =>
      simp only [cCode, cond_true] at h
      split at h
      · rename_i l hl
        cases hq : (tempsOk ops (CheckFast.beforeF ops) && opdsOk l ops.toList) with
        | false => rw [hq] at h; cases h
        | true =>
          rw [hq] at h
          cases h
          exact ⟨id, ops, l, rfl, hl, rfl⟩
      · cases h
  | _ => simp only [cCode] at h; first | (cases h; done) | (split at h <;> cases h)

def noF : Nat → Option MFun := fun _ => none
theorem noF_ok : FOk P noF := fun f m h => by cases h
theorem noF_h : PrimsH noF := fun f p h => by cases h

/-- The invariant goes over, told of the region's own list. -/
def GoesR (rl : List (Nat × MOper)) (J : (Nat → Bool) → AAct → AHeap → Prop) : Prop :=
  ∀ (S S' : Nat → Bool) (a : AAct) (h : AHeap) (p : Nat × MOper), p ∈ rl → J S a h → S p.1 = false → (∀ k, p.2.bef.testBit k = true → S k = true) → (∀ j, S' j = (S j || j == p.1)) →
    p.2.guard = none ∧ ∃ x h' c, evO a p.2.op h = some (.v x h' c) ∧ J S' (a.put p.2.dst x) h'

theorem endsAs_ret {ι : Mp} {h h' : AHeap} {w w' : World} {x : AV} {e : Ending} (k : EndsAs ι h w (.ret x) h' e w') : ∃ v, e = .returned v ∧ Comes1 ι h w x h' v w' := by
  rcases k with ⟨v, h1, y, h2, k⟩ | ⟨v, h1, y, h2, k⟩
  · cases h2
    exact ⟨v, h1, k⟩
  · cases h2
theorem fun_any (hmix : P.follows .mixedOrders = true) {f : FuncId} {fn : Func} (hfn : P.funcs[f]? = some fn) {nt : Nat} {mA : MCode} {rl : List (Nat × MOper)} {res : List RV} (hc : cFunc P fn = some (.code nt (.seq mA (.seq (.regD rl) .ret)) res))
    {args : List AV} {h h1 : AHeap} {a1 : AAct} (hle : args.length ≤ nt) (hA : evCode noCall 1 mA ⟨initTm args 0 .nil, []⟩ h = some (.norm, a1, h1)) (hno : ∀ p ∈ rl, p.2.op.isCall = false)
    {J : (Nat → Bool) → AAct → AHeap → Prop} (hJ : GoesR rl J) (j0 : J (fun _ => false) a1 h1) {x : AV} {Good : AHeap → Prop}
    (fin : ∀ S a2 h2, (∀ p ∈ rl, S p.1 = true) → J S a2 h2 → a2.df = [] ∧ resA a2 h2 res = some [x] ∧ Good h2)
    {ι : Mp} {w : World} {args' : Array Value} (hg : Glob P ι) (r : Rel ι h w) (hv : VRL ι (infoOf h.get) (wsz w) args args'.toList) :
    CallGives P f args' w (fun v' w' => ∃ h2, Good h2 ∧ Comes1 ι h w x h2 v' w') (fun _ _ => False) := by
  have hcall0 := calls_sound (P := P) noF_ok noF_h hmix 0
  have hcall : CallsOk P noCall := fun f args h res h' e => by cases e
  have hch : CallH noCall := fun f args h r h' e => by cases e
  have hD := dSound hcall hch
  obtain ⟨c, hb, hcc, hres, hname, rfl⟩ := cFunc_spec hc
  obtain ⟨cA, c2, rfl, hcA, hc2⟩ := code_seq hcc
  obtain ⟨cR, c3, rfl, hcR, hc3⟩ := code_seq hc2
  obtain ⟨id, ops, l, rfl, cops, rfl⟩ := code_regD hcR
  have hrun := run_callFunc (w := w) (args := args') hfn hb hname
  have hinit := ARel.init (nt := fn.ntmps) hv hle
  unfold CallGives
  rw [hrun]
  simp only
  refine (calls_of_wp_defers hfn hb (R := fun e w' => ∃ v, e = .returned v ∧ ∃ h2, Good h2 ∧ Comes1 ι h w x h2 v w') ?_).mono fun e w2 k => by
    obtain ⟨v, e1, k⟩ := k
    exact .inl ⟨v, e1, k⟩
  refine wp_seq (evCode_sound hcall (hD fn.ntmps) hmix 1 cA mA _ h ι w _ .norm a1 h1 _ hcA hA ⟨hg, r, hinit⟩ ?_)
  intro ι1 w1 a1' s1 r1 ha1
  have g1 : Glob P ι1 := fun g hgl => s1.grow.ext _ _ (hg g hgl)
  refine wp_seq (wp_region_draw fun t => ?_)
  rw [hmix]
  obtain ⟨r1', s1'⟩ := r1.drew
  have hJ' : Goes noCall l J := fun S S' a h i m j hm hS hp hS' => by
    have hmem : (i, m) ∈ reorder l := (reorder_mem l (i, m)).2 hm
    exact hJ S S' a h (i, m) hmem j hS hp hS'
  refine any_order hcall cops hJ' (Ctx.step ⟨g1, r1, ha1⟩ s1' r1' (ha1.mono s1'.grow)) j0 ?_ t
  · intro S ι2 w2 a2' a2 h2 hS j s2 r2 ha2
    have hall : ∀ p ∈ reorder l, S p.1 = true := fun p hp => by
      have := (reorder_mem l p).1 hp
      obtain ⟨hlen, _⟩ := cOpers_get cops
      have hlt : p.1 < l.length := (List.getElem?_eq_some_iff.1 this).1
      exact hS p.1 (by rw [hlen] at hlt; simpa using hlt)
    obtain ⟨hdf, hr, hgood⟩ := fin S a2 h2 hall j
    have g2 : Glob P ι2 := fun g hgl => s2.grow.ext _ _ (g1 g hgl)
    refine evCode_sound hcall (hD fn.ntmps) hmix 1 c3 .ret a2 h2 ι2 w2 a2' .ret a2 h2 _ hc3 rfl ⟨g2, r2, ha2⟩ ?_
    intro ι3 w3 a3' s3 r3 ha3
    have st : Step ι h w ι3 h2 w3 := (s1.trans r (s1'.trans r1 (s2.trans r1' s3)))
    have hl := leave_sound (F := noF) noF_ok hcall hD hmix (fuel := 1) hres (a := a2) (a' := a3') (cr := .ret x) (h' := h2) a2.df a3'.defers .ret .returning ι3 h2 w3 (by rw [hdf]; simp only [leave, hr]; rfl) (fun g hgl => s3.grow.ext _ _ (g2 g hgl)) r3 (ARel.part ha3) (ARel.df ha3) rfl
    refine Leaves.mono (fun e w4 k => ?_) _ _ _ hl
    have q := endsAs_ret k
    obtain ⟨v, e1, ι4, s4, r4, vr⟩ := q
    exact ⟨v, e1, h2, hgood, ι4, st.trans r s4, r4, vr⟩
end
end Go.Ev
/- A loop, by what holds ahead of each round and at the end. -/
namespace Go.Ev
open Go
section
variable {F : FT} {a : AAct} {h : AHeap} {K : Post}
/-- What is owed by a round: the next one, or what holds at the loop's end. -/
def loopX (I : Nat → AAct → AHeap → Prop) (J : AAct → AHeap → Prop) (n id : Nat) (K : Post) : Post
  | .norm, a, h => ∃ m, m < n ∧ I m a h
  | .exit i, a, h => if i = id then J a h else K (.exit i) a h
  | e, a, h => K e a h
variable {I : Nat → AAct → AHeap → Prop} {J : AAct → AHeap → Prop} {n id i : Nat}
@[go_sem] theorem loopX_norm : loopX I J n id K .norm a h = ∃ m, m < n ∧ I m a h := Eq.trans rfl rfl
@[go_sem] theorem loopX_exit : loopX I J n id K (.exit i) a h = if i = id then J a h else K (.exit i) a h := Eq.trans rfl rfl
@[go_sem] theorem loopX_ret : loopX I J n id K .ret a h = K .ret a h := Eq.trans rfl rfl
@[go_sem] theorem loopX_pan {v : AV} : loopX I J n id K (.pan v) a h = K (.pan v) a h := Eq.trans rfl rfl
end
attribute [irreducible] loopX
@[go_sem] theorem wantB_undef {w : Bool} : wantB (some undefA) w = false := by cases w <;> rfl
section
variable {F : FT} {l : List MOper} {b : Bool} {o : MOper} {a : AAct} {h : AHeap} {K K' : Post}
end
end Go.Ev
