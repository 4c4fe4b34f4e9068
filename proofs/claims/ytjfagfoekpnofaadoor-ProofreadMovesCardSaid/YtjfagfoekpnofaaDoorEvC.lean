/- Weakest preconditions over the evaluator, as data: what is to be shown of a code so that it ends as one wishes. -/
import Derived.Test.YtjfagfoekpnofaaDoorEvB
import Derived.Attr
import Derived.Below
import Derived.Handed
import Derived.Stop.LaidErr
import Derived.ProofKit
import Derived.ChangeArms
import Derived.DataReads
import Derived.Carry
set_option linter.all false
set_option linter.unusedVariables false
set_option linter.unusedSimpArgs false
namespace Go.Ev
open Go

abbrev Post := AExit → AAct → AHeap → Prop
abbrev QR := CRes → AHeap → Prop

def WF (F : FT) (f : FuncId) (args : List AV) (h : AHeap) (Q : QR) : Prop := ∃ r h', Ev F f args h r h' ∧ Q r h'
theorem WF.ev {F : FT} {f : FuncId} {args : List AV} {h : AHeap} {Q : QR} (w : WF F f args h Q) : ∃ r h', Ev F f args h r h' ∧ Q r h' := w
theorem WF.imp {F : FT} {f : FuncId} {args : List AV} {h : AHeap} {Q Q' : QR} (w : WF F f args h Q) (hq : ∀ r h', Q r h' → Q' r h') : WF F f args h Q' := by
  obtain ⟨r, h', e, q⟩ := w
  exact ⟨r, h', e, hq _ _ q⟩

def noCall : FuncId → List AV → AHeap → Option (CRes × AHeap) := fun _ _ _ => none
def evO (a : AAct) (op : MOp) (h : AHeap) : Option Res := evOp noCall a op h
def MOp.isCall : MOp → Bool
  | .call _ _ => true
  | .callv _ _ => true
  | _ => false
theorem evOp_noCall {call : FuncId → List AV → AHeap → Option (CRes × AHeap)} {a : AAct} {op : MOp} {h : AHeap} (hc : op.isCall = false) : evOp call a op h = evO a op h := by
  cases op <;> first | rfl | cases hc

/-- A call, by its callee's value. -/
def calleeA (a : AAct) (op : MOp) : Option (FuncId × List AV) :=
  match op with
  | .call f args => some (f, args.map a.eval)
  | .callv f args => match a.eval f with
    | .func (.func f) fs cs => some (f, fs ++ (args.map a.eval ++ cs))
    | _ => none
  | _ => none

def WCall (F : FT) (c : Option (FuncId × List AV)) (h : AHeap) (Q : QR) : Prop :=
  match c with
  | some (f, args) => WF F f args h Q
  | none => False

def callP (f : AAct → AHeap → Post → Prop) (d : Option Nat) (a : AAct) (K : Post) : QR
  | .ret x, h => f (a.put d x) h K
  | .pan x, h => K (.pan x) a h

/-- What goes on behind an operation's answer. -/
def opP (f : AAct → AHeap → Post → Prop) (x : Option Res) (d : Option Nat) (a : AAct) (h : AHeap) (K : Post) : Prop :=
  match x with
  | some (.v x h' _) => f (a.put d x) h' K
  | some (.pan x h') => K (.pan x) a h'
  | some (.df g as) => f (AAct.put ⟨a.tm, (g, as) :: a.df⟩ d undefA) h K
  | none => False

def wantP (F : FT) (f : AAct → AHeap → Post → Prop) (w : Bool) (o : MOper) (a : AAct) (h : AHeap) (K : Post) : Prop :=
  match w with
  | true => match o.op.isCall with
    | true => WCall F (calleeA a o.op) h (callP f o.dst a K)
    | false => opP f (evO a o.op h) o.dst a h K
  | false => f (a.put o.dst undefA) h K

def wpOps (F : FT) : List MOper → AAct → AHeap → Post → Prop
  | [], a, h, K => K .norm a h
  | o :: r, a, h, K => wantP F (wpOps F r) (wantedA a o.guard) o a h K

/-- The same in regions whose order is open. -/
def recPD (f : List Rec → Option (Nat × AV) → AAct → AHeap → Post → Prop) (i bef : Nat) (k : Cls) (a : AAct) (h h' : AHeap) (rs : List Rec) (pan : Option (Nat × AV)) (K : Post) : Prop :=
  match k with
  | .free => f rs pan a h' K
  | k => okWith bef k h h' rs = true ∧ f (⟨i, k, h, h'⟩ :: rs) pan a h' K

def opPD (f : List Rec → Option (Nat × AV) → AAct → AHeap → Post → Prop) (x : Option Res) (i bef : Nat) (d : Option Nat) (a : AAct) (h : AHeap) (rs : List Rec) (pan : Option (Nat × AV)) (K : Post) : Prop :=
  match x with
  | some (.v x h' k) => recPD f i bef k (a.put d x) h h' rs pan K
  | some (.pan x h') => match pan with
    | none => recPD f i bef .big a h h' rs (some (i, x)) K
    | some _ => False
  | _ => False

def callPD (f : List Rec → Option (Nat × AV) → AAct → AHeap → Post → Prop) (i bef : Nat) (d : Option Nat) (a : AAct) (h : AHeap) (rs : List Rec) (pan : Option (Nat × AV)) (K : Post) : QR
  | .ret x, h' => recPD f i bef .big (a.put d x) h h' rs pan K
  | .pan x, h' => match pan with
    | none => recPD f i bef .big a h h' rs (some (i, x)) K
    | some _ => False

def wantPD (F : FT) (f : List Rec → Option (Nat × AV) → AAct → AHeap → Post → Prop) (w : Bool) (i : Nat) (o : MOper) (a : AAct) (h : AHeap) (rs : List Rec) (pan : Option (Nat × AV)) (K : Post) : Prop :=
  match w with
  | true => match o.op.isCall with
    | true => WCall F (calleeA a o.op) h (callPD f i o.bef o.dst a h rs pan K)
    | false => opPD f (evO a o.op h) i o.bef o.dst a h rs pan K
  | false => f rs pan (a.put o.dst undefA) h K

def skipPD (F : FT) (f : List Rec → Option (Nat × AV) → AAct → AHeap → Post → Prop) (s : Bool) (i : Nat) (o : MOper) (a : AAct) (h : AHeap) (rs : List Rec) (pan : Option (Nat × AV)) (K : Post) : Prop :=
  match s with
  | true => f rs pan a h K
  | false => wantPD F f (wantedA a o.guard) i o a h rs pan K

def wpD (F : FT) (all : List (Nat × MOper)) : List (Nat × MOper) → List Rec → Option (Nat × AV) → AAct → AHeap → Post → Prop
  | [], _, none, a, h, K => K .norm a h
  | [], _, some (_, v), a, h, K => K (.pan v) ⟨dels all a.tm, a.df⟩ h
  | (i, o) :: r, rs, pan, a, h, K => skipPD F (wpD F all r) (skipsD o.bef pan) i o a h rs pan K

def sqP (f : AAct → AHeap → Post → Prop) (K : Post) : Post
  | .norm, a, h => f a h K
  | e, a, h => K e a h
def blP (id : Nat) (K : Post) : Post
  | .exit i, a, h => match i.beq id with | true => K .norm a h | false => K (.exit i) a h
  | e, a, h => K e a h
def condP (f g : AAct → AHeap → Post → Prop) (c : AV) (a : AAct) (h : AHeap) (K : Post) : Prop :=
  match c with
  | .bool true => f a h K
  | .bool false => g a h K
  | _ => False

def wpC (F : FT) : MCode → AAct → AHeap → Post → Prop
  | .skip, a, h, K => K .norm a h
  | .reg ops, a, h, K => wpOps F ops a h K
  | .regD ops, a, h, K => wpD F ops ops [] none a h K
  | .seq x y, a, h, K => wpC F x a h (sqP (wpC F y) K)
  | .cond c x y, a, h, K => condP (wpC F x) (wpC F y) (a.eval c) a h K
  | .block id x, a, h, K => wpC F x a h (blP id K)
  | .loop x, a, h, K => ∃ e a' h', EvL F x a h e a' h' ∧ K e a' h'
  | .exit id, a, h, K => K (.exit id) a h
  | .ret, a, h, K => K .ret a h

section
variable {F : FT}

theorem WCall.ev {a : AAct} {op : MOp} {h : AHeap} {Q : QR} (hc : op.isCall = true) (w : WCall F (calleeA a op) h Q) : (∃ x h1, EvO F op a h (.v x h1 .big) ∧ Q (.ret x) h1) ∨ (∃ x h1, EvO F op a h (.pan x h1) ∧ Q (.pan x) h1) := by
  cases op with
  | call f args =>
    obtain ⟨r, h', e, q⟩ := w
    cases r with
    | ret x => exact .inl ⟨x, h', EvO.call e, q⟩
    | pan x => exact .inr ⟨x, h', EvO.callPan e, q⟩
  | callv f args =>
    simp only [calleeA] at w
    split at w
    · rename_i g fs cs hf
      obtain ⟨r, h', e, q⟩ := w
      cases r with
      | ret x => exact .inl ⟨x, h', EvO.callv hf e, q⟩
      | pan x => exact .inr ⟨x, h', EvO.callvPan hf e, q⟩
    · exact w.elim
  | _ => cases hc

theorem wpOps_sound : ∀ (l : List MOper) (a : AAct) (h : AHeap) (K : Post), wpOps F l a h K → ∃ e a' h', EvOs F l a h e a' h' ∧ K e a' h'
  | [], a, h, K, w => ⟨.norm, a, h, EvOs.nil, w⟩
  | o :: r, a, h, K, w => by
    simp only [wpOps] at w
    cases hw : wantedA a o.guard with
    | false =>
      rw [hw] at w
      obtain ⟨e, a', h', g, k⟩ := wpOps_sound r _ _ _ w
      exact ⟨e, a', h', EvOs.no hw g, k⟩
    | true =>
      rw [hw] at w
      simp only [wantP] at w
      cases hc : o.op.isCall with
      | true =>
        rw [hc] at w
        rcases w.ev hc with ⟨x, h1, g, k⟩ | ⟨x, h1, g, k⟩
        · obtain ⟨e, a', h', g', k'⟩ := wpOps_sound r _ _ _ k
          exact ⟨e, a', h', EvOs.val hw g g', k'⟩
        · exact ⟨_, _, _, EvOs.pan hw g, k⟩
      | false =>
        rw [hc] at w
        simp only [opP] at w
        have ev : ∀ res, evO a o.op h = some res → EvO F o.op a h res := fun res he => EvO.of fun call => (evOp_noCall hc).trans he
        split at w
        · rename_i x h1 k1 he
          obtain ⟨e, a', h', g', k'⟩ := wpOps_sound r _ _ _ w
          exact ⟨e, a', h', EvOs.val hw (ev _ he) g', k'⟩
        · rename_i x h1 he
          exact ⟨_, _, _, EvOs.pan hw (ev _ he), w⟩
        · rename_i g as he
          obtain ⟨e, a', h', g', k'⟩ := wpOps_sound r _ _ _ w
          exact ⟨e, a', h', EvOs.df hw (ev _ he) g', k'⟩
        · exact w.elim

/-- Records of what hangs on no heap don't count. -/
inductive Thin : List Rec → List Rec → Prop
  | nil : Thin [] []
  | cons (r : Rec) {rs rs' : List Rec} : Thin rs rs' → Thin (r :: rs) (r :: rs')
  | free {r : Rec} {rs rs' : List Rec} : r.k = .free → Thin rs rs' → Thin rs (r :: rs')

theorem Thin.ok {rs rs' : List Rec} (t : Thin rs rs') {bef : Nat} {k : Cls} {h h' : AHeap} (ho : okWith bef k h h' rs = true) : okWith bef k h h' rs' = true := by
  induction t with
  | nil => exact ho
  | cons r t ih =>
    simp only [okWith, Bool.and_eq_true] at ho ⊢
    exact ⟨ho.1, ih ho.2⟩
  | @free r rs rs' hr t ih =>
    simp only [okWith, Bool.and_eq_true]
    refine ⟨?_, ih ho⟩
    have : compat r k h h' = true := by unfold compat; rw [hr]
    rw [this, Bool.or_true]
theorem okWith_free (bef : Nat) (h h' : AHeap) : ∀ rs, okWith bef .free h h' rs = true
  | [] => rfl
  | r :: rs => by
    have : compat r .free h h' = true := by unfold compat; cases r.k <;> rfl
    simp only [okWith, this, Bool.or_true, Bool.true_and, okWith_free bef h h' rs]

theorem recD_sound {f : List Rec → Option (Nat × AV) → AAct → AHeap → Post → Prop} {i bef : Nat} {k : Cls} {a : AAct} {h h' : AHeap} {rs rs' : List Rec} {pan : Option (Nat × AV)} {K : Post} (t : Thin rs rs') (w : recPD f i bef k a h h' rs pan K) :
    okWith bef k h h' rs' = true ∧ ∃ rs1, Thin rs1 (⟨i, k, h, h'⟩ :: rs') ∧ f rs1 pan a h' K := by
  cases k with
  | free => exact ⟨okWith_free _ _ _ _, rs, .free rfl t, w⟩
  | new => exact ⟨t.ok w.1, _, .cons _ t, w.2⟩
  | rd b => exact ⟨t.ok w.1, _, .cons _ t, w.2⟩
  | wr b => exact ⟨t.ok w.1, _, .cons _ t, w.2⟩
  | big => exact ⟨t.ok w.1, _, .cons _ t, w.2⟩

theorem wpD_sound (all : List (Nat × MOper)) : ∀ (l : List (Nat × MOper)) (rs rs' : List Rec) (pan : Option (Nat × AV)) (a : AAct) (h : AHeap) (K : Post), Thin rs rs' → wpD F all l rs pan a h K → ∃ e a' h', EvD F all l a h rs' pan e a' h' ∧ K e a' h'
  | [], rs, rs', none, a, h, K, _, w => ⟨.norm, a, h, EvD.nil, w⟩
  | [], rs, rs', some (j, v), a, h, K, _, w => ⟨.pan v, _, h, EvD.nilPan, w⟩
  | (i, o) :: r, rs, rs', pan, a, h, K, t, w => by
    simp only [wpD] at w
    cases hs : skipsD o.bef pan with
    | true =>
      rw [hs] at w
      obtain ⟨e, a', h', g, k⟩ := wpD_sound all r _ _ _ _ _ _ t w
      exact ⟨e, a', h', EvD.skip hs g, k⟩
    | false =>
      rw [hs] at w
      simp only [skipPD] at w
      cases hw : wantedA a o.guard with
      | false =>
        rw [hw] at w
        obtain ⟨e, a', h', g, k⟩ := wpD_sound all r _ _ _ _ _ _ t w
        exact ⟨e, a', h', EvD.no hs hw g, k⟩
      | true =>
        rw [hw] at w
        simp only [wantPD] at w
        cases hc : o.op.isCall with
        | true =>
          rw [hc] at w
          rcases w.ev hc with ⟨x, h1, g, k⟩ | ⟨x, h1, g, k⟩
          · simp only [callPD] at k
            obtain ⟨k1, rs1, t1, w1⟩ := recD_sound t k
            obtain ⟨e, a', h', g', k'⟩ := wpD_sound all r _ _ _ _ _ _ t1 w1
            exact ⟨e, a', h', EvD.val hs hw g k1 g', k'⟩
          · cases pan with
            | some _ => exact k.elim
            | none =>
              simp only [callPD] at k
              obtain ⟨k1, rs1, t1, w1⟩ := recD_sound t k
              obtain ⟨e, a', h', g', k'⟩ := wpD_sound all r _ _ _ _ _ _ t1 w1
              exact ⟨e, a', h', EvD.pan hw g k1 g', k'⟩
        | false =>
          rw [hc] at w
          simp only [opPD] at w
          have ev : ∀ res, evO a o.op h = some res → EvO F o.op a h res := fun res he => EvO.of fun call => (evOp_noCall hc).trans he
          split at w
          · rename_i x h1 c1 he
            obtain ⟨k1, rs1, t1, w1⟩ := recD_sound t w
            obtain ⟨e, a', h', g', k'⟩ := wpD_sound all r _ _ _ _ _ _ t1 w1
            exact ⟨e, a', h', EvD.val hs hw (ev _ he) k1 g', k'⟩
          · rename_i x h1 he
            cases pan with
            | some _ => exact w.elim
            | none =>
              obtain ⟨k1, rs1, t1, w1⟩ := recD_sound t w
              obtain ⟨e, a', h', g', k'⟩ := wpD_sound all r _ _ _ _ _ _ t1 w1
              exact ⟨e, a', h', EvD.pan hw (ev _ he) k1 g', k'⟩
          · exact w.elim

theorem wpC_sound : ∀ (c : MCode) (a : AAct) (h : AHeap) (K : Post), wpC F c a h K → ∃ e a' h', EvC F c a h e a' h' ∧ K e a' h'
  | .skip, a, h, K, w => ⟨_, _, _, EvC.skip, w⟩
  | .exit id, a, h, K, w => ⟨_, _, _, EvC.exit, w⟩
  | .ret, a, h, K, w => ⟨_, _, _, EvC.ret, w⟩
  | .reg ops, a, h, K, w => by
    obtain ⟨e, a', h', g, k⟩ := wpOps_sound ops a h K w
    exact ⟨e, a', h', EvC.reg g, k⟩
  | .regD ops, a, h, K, w => by
    obtain ⟨e, a', h', g, k⟩ := wpD_sound ops ops [] [] none a h K .nil w
    exact ⟨e, a', h', EvC.regD g, k⟩
  | .seq x y, a, h, K, w => by
    obtain ⟨e, a', h', g, k⟩ := wpC_sound x a h _ w
    cases e with
    | norm =>
      obtain ⟨e2, a2, h2, g2, k2⟩ := wpC_sound y a' h' K k
      exact ⟨e2, a2, h2, EvC.seq g g2, k2⟩
    | exit i => exact ⟨_, _, _, EvC.seqOut g (by simp), k⟩
    | ret => exact ⟨_, _, _, EvC.seqOut g (by simp), k⟩
    | pan v => exact ⟨_, _, _, EvC.seqOut g (by simp), k⟩
  | .cond c x y, a, h, K, w => by
    simp only [wpC] at w
    unfold condP at w
    split at w
    · rename_i hc
      obtain ⟨e, a', h', g, k⟩ := wpC_sound x a h K w
      exact ⟨e, a', h', EvC.cond hc g, k⟩
    · rename_i hc
      obtain ⟨e, a', h', g, k⟩ := wpC_sound y a h K w
      exact ⟨e, a', h', EvC.cond hc g, k⟩
    · exact w.elim
  | .block id x, a, h, K, w => by
    obtain ⟨e, a', h', g, k⟩ := wpC_sound x a h _ w
    cases e with
    | exit i =>
      simp only [blP] at k
      split at k
      · rename_i hi
        have : i = id := Nat.eq_of_beq_eq_true hi
        subst this
        exact ⟨_, _, _, EvC.block g, k⟩
      · rename_i hi
        exact ⟨_, _, _, EvC.blockOut g (fun q => by cases q; rw [Nat.beq_refl] at hi; cases hi), k⟩
    | norm => exact ⟨_, _, _, EvC.blockOut g (by simp), k⟩
    | ret => exact ⟨_, _, _, EvC.blockOut g (by simp), k⟩
    | pan v => exact ⟨_, _, _, EvC.blockOut g (by simp), k⟩
  | .loop x, a, h, K, w => by
    obtain ⟨e, a', h', g, k⟩ := w
    exact ⟨e, a', h', EvC.loop g, k⟩

/-- A loop, by what holds ahead of each round and a number that falls. -/
def loopP (I : Nat → AAct → AHeap → Prop) (n : Nat) (K : Post) : Post
  | .norm, a, h => ∃ m, m < n ∧ I m a h
  | e, a, h => K e a h
theorem wp_loop (I : Nat → AAct → AHeap → Prop) {x : MCode} {K : Post} (step : ∀ n a h, I n a h → wpC F x a h (loopP I n K)) : ∀ (n : Nat) {a : AAct} {h : AHeap}, I n a h → wpC F (.loop x) a h K := by
  intro n
  induction n using Nat.strongRecOn with
  | _ n ih =>
    intro a h hI
    obtain ⟨e, a', h', g, k⟩ := wpC_sound x a h _ (step n a h hI)
    cases e with
    | norm =>
      obtain ⟨m, hm, hI'⟩ := k
      obtain ⟨e2, a2, h2, g2, k2⟩ := ih m hm hI'
      exact ⟨e2, a2, h2, EvL.round g g2, k2⟩
    | exit i => exact ⟨_, _, _, EvL.out g (by simp), k⟩
    | ret => exact ⟨_, _, _, EvL.out g (by simp), k⟩
    | pan v => exact ⟨_, _, _, EvL.out g (by simp), k⟩

/-- A deferred closure that takes up what a frame leaves with. -/
def WDef (F : FT) (f : FuncId) (args : List AV) (lv : Lv) (h : AHeap) (Q : AHeap → Prop) : Prop :=
  ∃ h', (∃ k0, ∀ k, k0 ≤ k → evDefer (evCall F k) k (F f) args lv h = some (.ret, h')) ∧ Q h'
def finLP (F : FT) (res : List RV) (Q : QR) (a : AAct) : List (FuncId × List AV) → Lv → AHeap → Prop
  | [], .ret, h => match resA a h res with | some vs => Q (.ret (one vs)) h | none => False
  | [], .pan v, h => Q (.pan v) h
  | (f, args) :: r, lv, h => WDef F f args lv h (finLP F res Q a r .ret)
def finP (F : FT) (res : List RV) (Q : QR) : Post
  | .norm, a, h => finLP F res Q a a.df .ret h
  | .ret, a, h => finLP F res Q a a.df .ret h
  | .pan v, a, h => finLP F res Q a a.df (.pan v) h
  | .exit _, _, _ => False

theorem finL_sound {res : List RV} {Q : QR} {a : AAct} : ∀ (l : List (FuncId × List AV)) (lv : Lv) (h : AHeap), finLP F res Q a l lv h → ∃ r h', (∃ k0, ∀ k, k0 ≤ k → leave (evCall F k) k F res a l lv h = some (r, h')) ∧ Q r h'
  | [], .ret, h, w => by
    simp only [finLP] at w
    split at w
    · rename_i vs hv
      exact ⟨_, _, ⟨0, fun k _ => by simp only [leave, hv]⟩, w⟩
    · exact w.elim
  | [], .pan v, h, w => ⟨_, _, ⟨0, fun k _ => by simp only [leave]⟩, w⟩
  | (f, args) :: r, lv, h, w => by
    obtain ⟨h1, ⟨k0, g0⟩, w1⟩ := w
    obtain ⟨x, h', ⟨k1, g1⟩, q⟩ := finL_sound r .ret h1 w1
    refine ⟨x, h', ⟨max k0 k1, fun k hk => ?_⟩, q⟩
    simp only [leave, g0 k (by omega), g1 k (by omega)]

theorem WF.code {f : FuncId} {args : List AV} {h : AHeap} {Q : QR} {nt : Nat} {body : MCode} {res : List RV} (hf : F f = some (.code nt body res)) (hn : args.length.ble nt = true) (w : wpC F body ⟨initTm args 0 .nil, []⟩ h (finP F res Q)) : WF F f args h Q := by
  obtain ⟨e, a, h1, ⟨k0, g0⟩, k⟩ := wpC_sound _ _ _ _ w
  have fin : ∀ lv, finLP F res Q a a.df lv h1 → (∀ k, k0 ≤ k → evCall F (k + 1) f args h = leave (evCall F k) k F res a a.df lv h1) → WF F f args h Q := by
    intro lv hl he
    obtain ⟨r, h', ⟨k1, g1⟩, q⟩ := finL_sound _ _ _ hl
    refine ⟨r, h', ⟨max k0 k1 + 1, fun k hk => ?_⟩, q⟩
    obtain ⟨m, rfl⟩ : ∃ m, k = m + 1 := ⟨k - 1, by omega⟩
    rw [he m (by omega)]
    exact g1 m (by omega)
  have hb : ∀ k, evCall F (k + 1) f args h = (match evCode (evCall F k) k body ⟨initTm args 0 .nil, []⟩ h with
      | some (.norm, a, h') => leave (evCall F k) k F res a a.df .ret h'
      | some (.ret, a, h') => leave (evCall F k) k F res a a.df .ret h'
      | some (.pan v, a, h') => leave (evCall F k) k F res a a.df (.pan v) h'
      | _ => none) := fun k => by simp only [evCall, hf, hn, Bool.not_true, cond_false]; rfl
  cases e with
  | norm => exact fin .ret k fun k hk => by rw [hb, g0 k hk]
  | ret => exact fin .ret k fun k hk => by rw [hb, g0 k hk]
  | pan v => exact fin (.pan v) k fun k hk => by rw [hb, g0 k hk]
  | exit i => exact k.elim

theorem WF.prim {f : FuncId} {args : List AV} {h h' : AHeap} {Q : QR} {p : List AV → AHeap → Option (CRes × AHeap)} {r : CRes} (hf : F f = some (.prim p)) (hp : p args h = some (r, h')) (hQ : Q r h') : WF F f args h Q :=
  ⟨r, h', Ev.prim hf hp, hQ⟩

def defP (Q : AHeap → Prop) : Post
  | .norm, a, h => a.df = [] ∧ Q h
  | .ret, a, h => a.df = [] ∧ Q h
  | _, _, _ => False
def defP0 (f : AAct → AHeap → Post → Prop) (Q : AHeap → Prop) : Post
  | .norm, a, h => f a h (defP Q)
  | _, _, _ => False
theorem WDef.code {f : FuncId} {args : List AV} {lv : Lv} {h : AHeap} {Q : AHeap → Prop} {nt : Nat} {d : Option Nat} {b : Nat} {ops : List MOper} {rest : MCode} (hf : F f = some (.code nt (.seq (.reg (⟨d, .recover, none, b⟩ :: ops)) rest) [])) (hn : args.length.ble nt = true) (w : wpOps F ops (AAct.put ⟨initTm args 0 .nil, []⟩ d lv.val) h (defP0 (wpC F rest) Q)) : WDef F f args lv h Q := by
  obtain ⟨e, a, h1, ⟨k0, g0⟩, k⟩ := wpOps_sound _ _ _ _ w
  cases e with
  | norm =>
    obtain ⟨e2, a2, h2, ⟨k1, g1⟩, k2⟩ := wpC_sound _ _ _ _ k
    cases e2 with
    | norm =>
      obtain ⟨hd, q⟩ := k2
      obtain ⟨tm, df⟩ := a2
      cases hd
      exact ⟨h2, ⟨max k0 k1, fun k hk => by rw [hf]; simp only [evDefer, hn, Bool.not_true, cond_false, g0 k (by omega), g1 k (by omega)]⟩, q⟩
    | ret =>
      obtain ⟨hd, q⟩ := k2
      obtain ⟨tm, df⟩ := a2
      cases hd
      exact ⟨h2, ⟨max k0 k1, fun k hk => by rw [hf]; simp only [evDefer, hn, Bool.not_true, cond_false, g0 k (by omega), g1 k (by omega)]⟩, q⟩
    | exit i => exact k2.elim
    | pan v => exact k2.elim
  | exit i => exact k.elim
  | ret => exact k.elim
  | pan v => exact k.elim
theorem WF.mono {f : FuncId} {args : List AV} {h : AHeap} {Q Q' : QR} (hq : ∀ r h', Q r h' → Q' r h') (w : WF F f args h Q) : WF F f args h Q' := w.imp hq
theorem WCall.mono {c : Option (FuncId × List AV)} {h : AHeap} {Q Q' : QR} (hq : ∀ r h', Q r h' → Q' r h') (w : WCall F c h Q) : WCall F c h Q' := by
  unfold WCall at *
  split at w
  · exact w.imp hq
  · exact w
theorem wpOps_mono {K K' : Post} (hK : ∀ e a h, K e a h → K' e a h) : ∀ (l : List MOper) (a : AAct) (h : AHeap), wpOps F l a h K → wpOps F l a h K'
  | [], a, h, w => hK _ _ _ w
  | o :: r, a, h, w => by
    simp only [wpOps] at w ⊢
    unfold wantP at w ⊢
    split at w
    · split at w
      · refine w.mono fun r' h' q => ?_
        cases r' with
        | ret x => exact wpOps_mono hK r _ _ q
        | pan x => exact hK _ _ _ q
      · unfold opP at w ⊢
        split at w
        · exact wpOps_mono hK r _ _ w
        · exact hK _ _ _ w
        · exact wpOps_mono hK r _ _ w
        · exact w
    · exact wpOps_mono hK r _ _ w
theorem wpD_mono {all : List (Nat × MOper)} {K K' : Post} (hK : ∀ e a h, K e a h → K' e a h) : ∀ (l : List (Nat × MOper)) (rs : List Rec) (pan : Option (Nat × AV)) (a : AAct) (h : AHeap), wpD F all l rs pan a h K → wpD F all l rs pan a h K'
  | [], rs, none, a, h, w => hK _ _ _ w
  | [], rs, some (j, v), a, h, w => hK _ _ _ w
  | (i, o) :: r, rs, pan, a, h, w => by
    have hr : ∀ {i bef : Nat} {k : Cls} {a : AAct} {h h' : AHeap} {rs : List Rec} {pan : Option (Nat × AV)}, recPD (wpD F all r) i bef k a h h' rs pan K → recPD (wpD F all r) i bef k a h h' rs pan K' := by
      intro i bef k a h h' rs pan w
      unfold recPD at w ⊢
      split at w
      · exact wpD_mono hK r _ _ _ _ w
      · exact ⟨w.1, wpD_mono hK r _ _ _ _ w.2⟩
    simp only [wpD] at w ⊢
    unfold skipPD at w ⊢
    split at w
    · exact wpD_mono hK r _ _ _ _ w
    · unfold wantPD at w ⊢
      split at w
      · split at w
        · refine w.mono fun r' h' q => ?_
          cases r' with
          | ret x => unfold callPD at q ⊢; exact hr q
          | pan x => cases pan with
            | none => unfold callPD at q ⊢; exact hr q
            | some _ => exact q
        · unfold opPD at w ⊢
          split at w
          · exact hr w
          · split at w
            · exact hr w
            · exact w
          · exact w
      · exact wpD_mono hK r _ _ _ _ w
theorem wpC_mono : ∀ (c : MCode) {K K' : Post} (_ : ∀ e a h, K e a h → K' e a h) (a : AAct) (h : AHeap), wpC F c a h K → wpC F c a h K'
  | .skip, K, K', hK, a, h, w => hK _ _ _ w
  | .exit id, K, K', hK, a, h, w => hK _ _ _ w
  | .ret, K, K', hK, a, h, w => hK _ _ _ w
  | .reg ops, K, K', hK, a, h, w => wpOps_mono hK ops a h w
  | .regD ops, K, K', hK, a, h, w => wpD_mono hK ops [] none a h w
  | .seq x y, K, K', hK, a, h, w => wpC_mono x (fun e a h q => by
      cases e with
      | norm => exact wpC_mono y hK a h q
      | _ => exact hK _ _ _ q) a h w
  | .cond c x y, K, K', hK, a, h, w => by
    simp only [wpC] at w ⊢
    unfold condP at w ⊢
    split at w
    · exact wpC_mono x hK _ _ w
    · exact wpC_mono y hK _ _ w
    · exact w
  | .block id x, K, K', hK, a, h, w => wpC_mono x (fun e a h q => by
      cases e with
      | exit i => unfold blP at q ⊢; simp only at q ⊢; split at q <;> exact hK _ _ _ q
      | _ => exact hK _ _ _ q) a h w
  | .loop x, K, K', hK, a, h, w => by
    obtain ⟨e, a', h', g, k⟩ := w
    exact ⟨e, a', h', g, hK _ _ _ k⟩
/-- A place at which ways meet. -/
def cutP (I : AAct → AHeap → Prop) (K : Post) : Post
  | .norm, a, h => I a h
  | e, a, h => K e a h
theorem cutP_sq {I : AAct → AHeap → Prop} {K : Post} {y : MCode} (hI : ∀ a h, I a h → wpC F y a h K) (e : AExit) (a : AAct) (h : AHeap) (q : cutP I K e a h) : sqP (wpC F y) K e a h := by
  cases e with
  | norm => exact hI a h q
  | _ => exact q
theorem cond_cut (I : AAct → AHeap → Prop) {x x' y : MCode} {c : AV} {a : AAct} {h : AHeap} {K : Post} (w : condP (wpC F x) (wpC F x') c a h (cutP I K)) (hI : ∀ a h, I a h → wpC F y a h K) : condP (wpC F x) (wpC F x') c a h (sqP (wpC F y) K) := by
  unfold condP at w ⊢
  split at w
  · exact wpC_mono x (cutP_sq hI) a h w
  · exact wpC_mono x' (cutP_sq hI) a h w
  · exact w
end

/-! The rewriting rules of the weakest preconditions. -/

section
variable {F : FT} {a : AAct} {h h' : AHeap} {K : Post}

@[go_sem] theorem wpC_skip : wpC F .skip a h K = K .norm a h := Eq.trans rfl rfl
@[go_sem] theorem wpC_reg {ops : List MOper} : wpC F (.reg ops) a h K = wpOps F ops a h K := Eq.trans rfl rfl
@[go_sem] theorem wpC_regD {ops : List (Nat × MOper)} : wpC F (.regD ops) a h K = wpD F ops ops [] none a h K := Eq.trans rfl rfl
@[go_sem] theorem wpC_seq {x y : MCode} : wpC F (.seq x y) a h K = wpC F x a h (sqP (wpC F y) K) := Eq.trans rfl rfl
@[go_sem] theorem wpC_cond {c : Opd} {x y : MCode} : wpC F (.cond c x y) a h K = condP (wpC F x) (wpC F y) (a.eval c) a h K := Eq.trans rfl rfl
@[go_sem] theorem wpC_block {id : Nat} {x : MCode} : wpC F (.block id x) a h K = wpC F x a h (blP id K) := Eq.trans rfl rfl
@[go_sem] theorem wpC_exit {id : Nat} : wpC F (.exit id) a h K = K (.exit id) a h := Eq.trans rfl rfl
@[go_sem] theorem wpC_ret : wpC F .ret a h K = K .ret a h := Eq.trans rfl rfl

@[go_sem] theorem wpOps_nil : wpOps F [] a h K = K .norm a h := Eq.trans rfl rfl
@[go_sem] theorem wpOps_cons {d : Option Nat} {op : MOp} {g : Option (Nat × Bool)} {b : Nat} {r : List MOper} : wpOps F (⟨d, op, g, b⟩ :: r) a h K = wantP F (wpOps F r) (wantedA a g) ⟨d, op, g, b⟩ a h K := Eq.trans rfl rfl
section
variable {f : AAct → AHeap → Post → Prop} {d : Option Nat} {g : Option (Nat × Bool)} {b : Nat} {args : List Opd} {fn : FuncId} {fv : Opd} {op : MOp} {o : MOper}
def kindP (F : FT) (f : AAct → AHeap → Post → Prop) (c : Bool) (d : Option Nat) (op : MOp) (a : AAct) (h : AHeap) (K : Post) : Prop :=
  match c with
  | true => WCall F (calleeA a op) h (callP f d a K)
  | false => opP f (evO a op h) d a h K
@[go_sem] theorem wantP_yes : wantP F f true ⟨d, op, g, b⟩ a h K = kindP F f op.isCall d op a h K := Eq.trans rfl rfl
@[go_sem] theorem kindP_true : kindP F f true d op a h K = WCall F (calleeA a op) h (callP f d a K) := Eq.trans rfl rfl
@[go_sem] theorem kindP_false : kindP F f false d op a h K = opP f (evO a op h) d a h K := Eq.trans rfl rfl
@[go_sem] theorem wantP_no : wantP F f false ⟨d, op, g, b⟩ a h K = f (a.put d undefA) h K := Eq.trans rfl rfl
@[go_sem] theorem opP_v {x : AV} {k : Cls} : opP f (some (.v x h' k)) d a h K = f (a.put d x) h' K := Eq.trans rfl rfl
@[go_sem] theorem opP_pan {x : AV} : opP f (some (.pan x h')) d a h K = K (.pan x) a h' := Eq.trans rfl rfl
@[go_sem] theorem opP_df {as : List AV} : opP f (some (.df fn as)) d a h K = f (AAct.put ⟨a.tm, (fn, as) :: a.df⟩ d undefA) h K := Eq.trans rfl rfl
@[go_sem] theorem callP_ret {x : AV} : callP f d a K (.ret x) h = f (a.put d x) h K := Eq.trans rfl rfl
@[go_sem] theorem callP_pan {x : AV} : callP f d a K (.pan x) h = K (.pan x) a h := Eq.trans rfl rfl
@[go_sem] theorem sqP_norm : sqP f K .norm a h = f a h K := Eq.trans rfl rfl
@[go_sem] theorem sqP_exit {i : Nat} : sqP f K (.exit i) a h = K (.exit i) a h := Eq.trans rfl rfl
@[go_sem] theorem sqP_ret : sqP f K .ret a h = K .ret a h := Eq.trans rfl rfl
@[go_sem] theorem sqP_pan {v : AV} : sqP f K (.pan v) a h = K (.pan v) a h := Eq.trans rfl rfl
@[go_sem] theorem blP_norm {i : Nat} : blP i K .norm a h = K .norm a h := Eq.trans rfl rfl
@[go_sem] theorem blP_exit {i j : Nat} : blP i K (.exit j) a h = if j = i then K .norm a h else K (.exit j) a h := by
  simp only [blP]
  by_cases e : j = i
  · rw [if_pos e, beqT e]
  · rw [if_neg e, beqF e]
@[go_sem] theorem blP_ret {i : Nat} : blP i K .ret a h = K .ret a h := Eq.trans rfl rfl
@[go_sem] theorem blP_pan {i : Nat} {v : AV} : blP i K (.pan v) a h = K (.pan v) a h := Eq.trans rfl rfl
variable {f2 : AAct → AHeap → Post → Prop}
@[go_sem] theorem condP_true : condP f f2 (.bool true) a h K = f a h K := Eq.trans rfl rfl
@[go_sem] theorem condP_false : condP f f2 (.bool false) a h K = f2 a h K := Eq.trans rfl rfl
theorem condP_splitN {c : Bool} (h1 : c = false → f a h K) (h2 : c = true → f2 a h K) : condP f f2 (.bool (!c)) a h K := by cases c; exact h1 rfl; exact h2 rfl
theorem condP_split {c : Bool} (h1 : c = true → f a h K) (h2 : c = false → f2 a h K) : condP f f2 (.bool c) a h K := by cases c; exact h2 rfl; exact h1 rfl
theorem wantP_splitN {w : Bool} (h1 : w = false → wantP F f true o a h K) (h2 : w = true → wantP F f false o a h K) : wantP F f (!w) o a h K := by cases w; exact h1 rfl; exact h2 rfl
theorem wantP_split {w : Bool} (h1 : w = true → wantP F f true o a h K) (h2 : w = false → wantP F f false o a h K) : wantP F f w o a h K := by cases w; exact h2 rfl; exact h1 rfl
end

section
variable {f : List Rec → Option (Nat × AV) → AAct → AHeap → Post → Prop} {i bef : Nat} {d : Option Nat} {g : Option (Nat × Bool)} {args : List Opd} {fn : FuncId} {fv : Opd} {op : MOp} {o : MOper} {rs : List Rec} {pan : Option (Nat × AV)} {all r : List (Nat × MOper)}
@[go_sem] theorem wpD_nil : wpD F all [] rs none a h K = K .norm a h := Eq.trans rfl rfl
@[go_sem] theorem wpD_nilPan {v : AV} : wpD F all [] rs (some (i, v)) a h K = K (.pan v) ⟨dels all a.tm, a.df⟩ h := Eq.trans rfl rfl
@[go_sem] theorem wpD_cons : wpD F all ((i, ⟨d, op, g, bef⟩) :: r) rs pan a h K = skipPD F (wpD F all r) (skipsD bef pan) i ⟨d, op, g, bef⟩ a h rs pan K := by cases pan <;> rfl
@[go_sem] theorem skipsD_none : skipsD bef none = false := Eq.trans rfl rfl
@[go_sem] theorem skipsD_some {v : AV} : skipsD bef (some (i, v)) = bef.testBit i := Eq.trans rfl rfl
@[go_sem] theorem skipPD_true : skipPD F f true i ⟨d, op, g, bef⟩ a h rs pan K = f rs pan a h K := Eq.trans rfl rfl
@[go_sem] theorem skipPD_false : skipPD F f false i ⟨d, op, g, bef⟩ a h rs pan K = wantPD F f (wantedA a g) i ⟨d, op, g, bef⟩ a h rs pan K := Eq.trans rfl rfl
def kindPD (F : FT) (f : List Rec → Option (Nat × AV) → AAct → AHeap → Post → Prop) (c : Bool) (i bef : Nat) (d : Option Nat) (op : MOp) (a : AAct) (h : AHeap) (rs : List Rec) (pan : Option (Nat × AV)) (K : Post) : Prop :=
  match c with
  | true => WCall F (calleeA a op) h (callPD f i bef d a h rs pan K)
  | false => opPD f (evO a op h) i bef d a h rs pan K
@[go_sem] theorem wantPD_yes : wantPD F f true i ⟨d, op, g, bef⟩ a h rs pan K = kindPD F f op.isCall i bef d op a h rs pan K := Eq.trans rfl rfl
@[go_sem] theorem kindPD_true : kindPD F f true i bef d op a h rs pan K = WCall F (calleeA a op) h (callPD f i bef d a h rs pan K) := Eq.trans rfl rfl
@[go_sem] theorem kindPD_false : kindPD F f false i bef d op a h rs pan K = opPD f (evO a op h) i bef d a h rs pan K := Eq.trans rfl rfl
@[go_sem] theorem wantPD_no : wantPD F f false i ⟨d, op, g, bef⟩ a h rs pan K = f rs pan (a.put d undefA) h K := Eq.trans rfl rfl
theorem wantPD_splitN {w : Bool} (h1 : w = false → wantPD F f true i o a h rs pan K) (h2 : w = true → wantPD F f false i o a h rs pan K) : wantPD F f (!w) i o a h rs pan K := by cases w; exact h1 rfl; exact h2 rfl
theorem wantPD_split {w : Bool} (h1 : w = true → wantPD F f true i o a h rs pan K) (h2 : w = false → wantPD F f false i o a h rs pan K) : wantPD F f w i o a h rs pan K := by cases w; exact h2 rfl; exact h1 rfl
@[go_sem] theorem opPD_v {x : AV} {k : Cls} : opPD f (some (.v x h' k)) i bef d a h rs pan K = recPD f i bef k (a.put d x) h h' rs pan K := Eq.trans rfl rfl
@[go_sem] theorem opPD_pan {x : AV} : opPD f (some (.pan x h')) i bef d a h rs none K = recPD f i bef .big a h h' rs (some (i, x)) K := Eq.trans rfl rfl
@[go_sem] theorem callPD_ret {x : AV} : callPD f i bef d a h rs pan K (.ret x) h' = recPD f i bef .big (a.put d x) h h' rs pan K := Eq.trans rfl rfl
@[go_sem] theorem callPD_pan {x : AV} : callPD f i bef d a h rs none K (.pan x) h' = recPD f i bef .big a h h' rs (some (i, x)) K := Eq.trans rfl rfl
@[go_sem] theorem recPD_free : recPD f i bef .free a h h' rs pan K = f rs pan a h' K := Eq.trans rfl rfl
@[go_sem] theorem recPD_new : recPD f i bef .new a h h' rs pan K = (okWith bef .new h h' rs = true ∧ f (⟨i, .new, h, h'⟩ :: rs) pan a h' K) := Eq.trans rfl rfl
@[go_sem] theorem recPD_rd {b : Nat} : recPD f i bef (.rd b) a h h' rs pan K = (okWith bef (.rd b) h h' rs = true ∧ f (⟨i, .rd b, h, h'⟩ :: rs) pan a h' K) := Eq.trans rfl rfl
@[go_sem] theorem recPD_wr {b : Nat} : recPD f i bef (.wr b) a h h' rs pan K = (okWith bef (.wr b) h h' rs = true ∧ f (⟨i, .wr b, h, h'⟩ :: rs) pan a h' K) := Eq.trans rfl rfl
@[go_sem] theorem recPD_big : recPD f i bef .big a h h' rs pan K = (okWith bef .big h h' rs = true ∧ f (⟨i, .big, h, h'⟩ :: rs) pan a h' K) := Eq.trans rfl rfl
attribute [go_sem] okWith compat Nat.testBit_eq_decide_div_mod_eq decide_true decide_false Bool.true_or Bool.or_true Bool.false_or Bool.or_false Bool.and_true Bool.true_and Bool.and_false Bool.false_and Bool.not_true Bool.not_false true_and and_true
end
@[go_sem] theorem WCall_some {f : FuncId} {args : List AV} {Q : QR} : WCall F (some (f, args)) h Q = WF F f args h Q := Eq.trans rfl rfl

@[go_sem] theorem put_some {d : Nat} {v : AV} : a.put (some d) v = ⟨a.tm.set d v, a.df⟩ := Eq.trans rfl rfl
@[go_sem] theorem put_none {v : AV} : a.put none v = a := Eq.trans rfl rfl
@[go_sem] theorem eval_t {t : Tr AV} {df : List (FuncId × List AV)} {i : Nat} : AAct.eval ⟨t, df⟩ (.t i) = (t.get i).getD undefA := Eq.trans rfl rfl
@[go_sem] theorem eval_c {v : AV} : AAct.eval a (.c v) = v := Eq.trans rfl rfl
@[go_sem] theorem wanted_none : wantedA a none = true := Eq.trans rfl rfl
def wantB : Option AV → Bool → Bool
  | some (.bool b), true => b
  | some (.bool b), false => !b
  | _, _ => false
@[go_sem] theorem wantB_true {b : Bool} : wantB (some (.bool b)) true = b := Eq.trans rfl rfl
@[go_sem] theorem wantB_false {b : Bool} : wantB (some (.bool b)) false = !b := Eq.trans rfl rfl
@[go_sem] theorem wanted_some {t : Nat} {w : Bool} {x : Tr AV} {df : List (FuncId × List AV)} : wantedA ⟨x, df⟩ (some (t, w)) = wantB (x.get t) w := by
  simp only [wantedA]
  generalize x.get t = y
  cases y with
  | none => rfl
  | some v => cases v with
    | bool b => cases w <;> cases b <;> rfl
    | _ => rfl
@[go_sem] theorem bin_lss {k : IntKind} {x y : Int} : binA .lss (.int k x) (.int k y) = some (.bool (decide (x < y))) := by simp [binA, intBin]
@[go_sem] theorem bin_leq {k : IntKind} {x y : Int} : binA .leq (.int k x) (.int k y) = some (.bool (decide (x ≤ y))) := by simp [binA, intBin]
@[go_sem] theorem bin_gtr {k : IntKind} {x y : Int} : binA .gtr (.int k x) (.int k y) = some (.bool (decide (x > y))) := by simp [binA, intBin]
@[go_sem] theorem bin_geq {k : IntKind} {x y : Int} : binA .geq (.int k x) (.int k y) = some (.bool (decide (x ≥ y))) := by simp [binA, intBin]
@[go_sem] theorem bin_eql {k : IntKind} {x y : Int} : binA .eql (.int k x) (.int k y) = some (.bool (x == y)) := by simp [binA, intBin]
@[go_sem] theorem bin_neq {k : IntKind} {x y : Int} : binA .neq (.int k x) (.int k y) = some (.bool (x != y)) := by simp [binA, intBin]
@[go_sem] theorem bin_add {k : IntKind} {x y : Int} : binA .add (.int k x) (.int k y) = some (.int k (wr k (x + y))) := by simp [binA, intBin]
@[go_sem] theorem bin_sub {k : IntKind} {x y : Int} : binA .sub (.int k x) (.int k y) = some (.int k (wr k (x - y))) := by simp [binA, intBin]
@[go_sem] theorem bin_mul {k : IntKind} {x y : Int} : binA .mul (.int k x) (.int k y) = some (.int k (wr k (x * y))) := by simp [binA, intBin]
@[go_sem] theorem bin_quo {k : IntKind} {x y : Int} (hy : y ≠ 0) : binA .quo (.int k x) (.int k y) = some (.int k (wr k (x.tdiv y))) := by
  have e : (y == 0) = false := beq_eq_false_iff_ne.2 hy
  simp [binA, intBin, e]
@[go_sem] theorem bin_rem {k : IntKind} {x y : Int} (hy : y ≠ 0) : binA .rem (.int k x) (.int k y) = some (.int k (x.tmod y)) := by
  have e : (y == 0) = false := beq_eq_false_iff_ne.2 hy
  simp [binA, intBin, e]
@[go_sem] theorem bin_str {op : BinOp} {x y : List UInt8} : binA op (.str x) (.str y) = strBin op x y := by simp [binA]
@[go_sem] theorem str_add {x y : List UInt8} (h : x.length + y.length ≤ 9223372036854775807) : strBin .add x y = some (.str (x ++ y)) := by
  simp only [strBin, Nat.ble_eq_true_of_le h, cond_true]
@[go_sem] theorem str_eql {x y : List UInt8} : strBin .eql x y = some (.bool (x == y)) := Eq.trans rfl rfl
@[go_sem] theorem str_neq {x y : List UInt8} : strBin .neq x y = some (.bool !(x == y)) := Eq.trans rfl rfl
theorem fits_i64 {n : Int} (h1 : -9223372036854775808 ≤ n) (h2 : n ≤ 9223372036854775807) : fits .i64 n = true := by simp [fits, h1, h2]
@[go_sem] theorem wr_i64 {n : Int} (h1 : -9223372036854775808 ≤ n) (h2 : n ≤ 9223372036854775807) : wr .i64 n = n := by unfold wr; rw [fits_i64 h1 h2]; rfl
@[go_sem] theorem wr_u8 {n : Int} (h1 : 0 ≤ n) (h2 : n ≤ 255) : wr .u8 n = n := by simp [wr, fits, h1, h2]
@[go_sem] theorem wr_u64 {n : Int} (h1 : 0 ≤ n) (h2 : n ≤ 18446744073709551615) : wr .u64 n = n := by simp [wr, fits, h1, h2]
attribute [go_sem] List.getElem?_cons_zero List.getElem?_cons_succ Int.toNat_natCast unA allFlat List.all_cons List.all_nil
@[go_sem] theorem cells_bool {b : Bool} : AV.cells (.bool b) = [.bool b] := Eq.trans rfl rfl
@[go_sem] theorem flat_bool {b : Bool} : AV.flat (.bool b) = true := Eq.trans rfl rfl
@[go_sem] theorem cells_int {k : IntKind} {n : Int} : AV.cells (.int k n) = [.int k n] := Eq.trans rfl rfl
@[go_sem] theorem flat_int {k : IntKind} {n : Int} : AV.flat (.int k n) = true := Eq.trans rfl rfl
@[go_sem] theorem cells_float {k : FloatKind} {n : Nat} : AV.cells (.float k n) = [.float k n] := Eq.trans rfl rfl
@[go_sem] theorem flat_float {k : FloatKind} {n : Nat} : AV.flat (.float k n) = true := Eq.trans rfl rfl
@[go_sem] theorem cells_str {s : List UInt8} : AV.cells (.str s) = [.str s] := Eq.trans rfl rfl
@[go_sem] theorem flat_str {s : List UInt8} : AV.flat (.str s) = true := Eq.trans rfl rfl
@[go_sem] theorem cells_ptr {b o : Nat} : AV.cells (.ptr b o) = [.ptr b o] := Eq.trans rfl rfl
@[go_sem] theorem flat_ptr {b o : Nat} : AV.flat (.ptr b o) = true := Eq.trans rfl rfl
@[go_sem] theorem cells_nilPtr  : AV.cells (.nilPtr) = [.nilPtr] := Eq.trans rfl rfl
@[go_sem] theorem flat_nilPtr  : AV.flat (.nilPtr) = true := Eq.trans rfl rfl
@[go_sem] theorem cells_slice {b o l c : Nat} {e : Bool} : AV.cells (.slice b o l c e) = [.slice b o l c e] := Eq.trans rfl rfl
@[go_sem] theorem flat_slice {b o l c : Nat} {e : Bool} : AV.flat (.slice b o l c e) = true := Eq.trans rfl rfl
@[go_sem] theorem cells_nilSlice  : AV.cells (.nilSlice) = [.nilSlice] := Eq.trans rfl rfl
@[go_sem] theorem flat_nilSlice  : AV.flat (.nilSlice) = true := Eq.trans rfl rfl
@[go_sem] theorem cells_map {r : Nat} : AV.cells (.map r) = [.map r] := Eq.trans rfl rfl
@[go_sem] theorem flat_map {r : Nat} : AV.flat (.map r) = true := Eq.trans rfl rfl
@[go_sem] theorem cells_nilMap  : AV.cells (.nilMap) = [.nilMap] := Eq.trans rfl rfl
@[go_sem] theorem flat_nilMap  : AV.flat (.nilMap) = true := Eq.trans rfl rfl
@[go_sem] theorem cells_func {f : Fn} {a b : List AV} : AV.cells (.func f a b) = [.func f a b] := Eq.trans rfl rfl
@[go_sem] theorem flat_func {f : Fn} {a b : List AV} : AV.flat (.func f a b) = true := Eq.trans rfl rfl
@[go_sem] theorem cells_nilFunc  : AV.cells (.nilFunc) = [.nilFunc] := Eq.trans rfl rfl
@[go_sem] theorem flat_nilFunc  : AV.flat (.nilFunc) = true := Eq.trans rfl rfl
@[go_sem] theorem cells_iface {t : TypeId} {v : AV} : AV.cells (.iface t v) = [.iface t v] := Eq.trans rfl rfl
@[go_sem] theorem flat_iface {t : TypeId} {v : AV} : AV.flat (.iface t v) = true := Eq.trans rfl rfl
@[go_sem] theorem cells_nilIface  : AV.cells (.nilIface) = [.nilIface] := Eq.trans rfl rfl
@[go_sem] theorem flat_nilIface  : AV.flat (.nilIface) = true := Eq.trans rfl rfl
@[go_sem] theorem cells_agg {cs : List AV} : AV.cells (.agg cs) = cs := Eq.trans rfl rfl
@[go_sem] theorem int_nn {n : Nat} : ((0 : Int) ≤ (n : Int)) = True := by simp
@[go_sem] theorem beq_nat {m n : Nat} : m.beq n = decide (m = n) := by
  by_cases e : m = n
  · rw [beqT e, decide_eq_true e]
  · rw [beqF e, decide_eq_false e]
@[go_sem] theorem ble_nat {m n : Nat} : m.ble n = decide (m ≤ n) := by
  by_cases e : m ≤ n
  · rw [Nat.ble_eq_true_of_le e, decide_eq_true e]
  · rw [decide_eq_false e]; cases q : m.ble n; rfl; exact absurd (Nat.le_of_ble_eq_true q) e
theorem get_alloc_new {o : AObj} {b : Nat} (h1 : b ≤ h.n) (h2 : h.n ≤ b) : (h.alloc o).get b = some ⟨0, o⟩ := by rw [AHeap.get_alloc, if_pos (Nat.le_antisymm h1 h2)]
theorem get_alloc_old {o : AObj} {b : Nat} (hb : b ≠ h.n) : (h.alloc o).get b = h.get b := by rw [AHeap.get_alloc, if_neg hb]
theorem get_upd_at {o : AObj} {b b' v : Nat} (h1 : b ≤ b') (h2 : b' ≤ b) : (h.upd b' v o).get b = some ⟨v, o⟩ := by rw [AHeap.get_upd, if_pos (Nat.le_antisymm h1 h2)]
theorem get_upd_off {o : AObj} {b b' v : Nat} (hb : b ≠ b') : (h.upd b' v o).get b = h.get b := by rw [AHeap.get_upd, if_neg hb]
@[go_sem] theorem row_tl {x : AV} {vs : List AV} {o n : Nat} : row (x :: vs) (o + 1) n = row vs o n := by
  simp only [row, List.length_cons, List.drop_succ_cons, ble_nat]
  by_cases e : o + n ≤ vs.length
  · rw [decide_eq_true (show o + 1 + n ≤ vs.length + 1 by omega), decide_eq_true e]
  · rw [decide_eq_false (show ¬ o + 1 + n ≤ vs.length + 1 by omega), decide_eq_false e]
@[go_sem] theorem row_nil {vs : List AV} : row vs 0 0 = some [] := by simp [row, ble_nat]
@[go_sem] theorem row_hd {x : AV} {vs : List AV} {n : Nat} : row (x :: vs) 0 (n + 1) = (row vs 0 n).map (x :: ·) := by
  simp only [row, List.length_cons, List.drop_zero, List.take_succ_cons, Nat.zero_add, ble_nat]
  by_cases e : n ≤ vs.length
  · rw [decide_eq_true (show n + 1 ≤ vs.length + 1 by omega), decide_eq_true e]; rfl
  · rw [decide_eq_false (show ¬ n + 1 ≤ vs.length + 1 by omega), decide_eq_false e]; rfl
@[go_sem] theorem lay_tl {x : AV} {vs cs : List AV} {o : Nat} : lay (x :: vs) (o + 1) cs = (lay vs o cs).map (x :: ·) := by
  simp only [lay, List.length_cons, List.take_succ_cons, ble_nat]
  by_cases e : o + cs.length ≤ vs.length
  · rw [decide_eq_true (show o + 1 + cs.length ≤ vs.length + 1 by omega), decide_eq_true e, show o + 1 + cs.length = o + cs.length + 1 by omega]; rfl
  · rw [decide_eq_false (show ¬ o + 1 + cs.length ≤ vs.length + 1 by omega), decide_eq_false e]; rfl
@[go_sem] theorem lay_nil {vs : List AV} : lay vs 0 [] = some vs := by simp [lay, ble_nat]
@[go_sem] theorem lay_hd {x c : AV} {vs cs : List AV} : lay (x :: vs) 0 (c :: cs) = (lay vs 0 cs).map (c :: ·) := by
  simp only [lay, List.length_cons, Nat.zero_add, ble_nat]
  by_cases e : cs.length ≤ vs.length
  · rw [decide_eq_true (show cs.length + 1 ≤ vs.length + 1 by omega), decide_eq_true e]; rfl
  · rw [decide_eq_false (show ¬ cs.length + 1 ≤ vs.length + 1 by omega), decide_eq_false e]; rfl
theorem bnd_num {k : IntKind} {i d n : Nat} (h : i ≤ n) : bnd (some (.int k (i : Int))) d n = some i := by simp [bnd, h]
theorem bnd_none {d n : Nat} : bnd none d n = some d := Eq.trans rfl rfl
attribute [go_sem] bnd_num bnd_none Option.map_some Option.map_none fillA List.length_cons List.length_nil Nat.zero_add
attribute [go_sem] get_alloc_new get_alloc_old get_upd_at get_upd_off AHeap.alloc_n AHeap.upd_n
section
variable {res : List RV} {Q : QR}
def resP (Q : QR) (h : AHeap) : Option (List AV) → Prop
  | some vs => Q (.ret (one vs)) h
  | none => False
@[go_sem] theorem resP_some {vs : List AV} : resP Q h (some vs) = Q (.ret (one vs)) h := Eq.trans rfl rfl
@[go_sem] theorem finP_ret : finP F res Q .ret a h = finLP F res Q a a.df .ret h := Eq.trans rfl rfl
@[go_sem] theorem finP_norm : finP F res Q .norm a h = finLP F res Q a a.df .ret h := Eq.trans rfl rfl
@[go_sem] theorem finP_pan {v : AV} : finP F res Q (.pan v) a h = finLP F res Q a a.df (.pan v) h := Eq.trans rfl rfl
@[go_sem] theorem finLP_ret : finLP F res Q a [] .ret h = resP Q h (resA a h res) := by unfold finLP resP; cases resA a h res <;> rfl
@[go_sem] theorem finLP_pan {v : AV} : finLP F res Q a [] (.pan v) h = Q (.pan v) h := Eq.trans rfl rfl
@[go_sem] theorem finLP_df {f : FuncId} {args : List AV} {r : List (FuncId × List AV)} {lv : Lv} : finLP F res Q a ((f, args) :: r) lv h = WDef F f args lv h (finLP F res Q a r .ret) := Eq.trans rfl rfl
@[go_sem] theorem defP_norm {Q : AHeap → Prop} : defP Q .norm a h = (a.df = [] ∧ Q h) := Eq.trans rfl rfl
@[go_sem] theorem defP_ret {Q : AHeap → Prop} : defP Q .ret a h = (a.df = [] ∧ Q h) := Eq.trans rfl rfl
@[go_sem] theorem defP0_norm {f : AAct → AHeap → Post → Prop} {Q : AHeap → Prop} : defP0 f Q .norm a h = f a h (defP Q) := Eq.trans rfl rfl
@[go_sem] theorem cutP_norm {I : AAct → AHeap → Prop} : cutP I K .norm a h = I a h := Eq.trans rfl rfl
@[go_sem] theorem cutP_exit {I : AAct → AHeap → Prop} {i : Nat} : cutP I K (.exit i) a h = K (.exit i) a h := Eq.trans rfl rfl
@[go_sem] theorem cutP_ret {I : AAct → AHeap → Prop} : cutP I K .ret a h = K .ret a h := Eq.trans rfl rfl
@[go_sem] theorem cutP_pan {I : AAct → AHeap → Prop} {v : AV} : cutP I K (.pan v) a h = K (.pan v) a h := Eq.trans rfl rfl
@[go_sem] theorem loopP_norm {I : Nat → AAct → AHeap → Prop} {n : Nat} : loopP I n K .norm a h = ∃ m, m < n ∧ I m a h := Eq.trans rfl rfl
@[go_sem] theorem loopP_exit {I : Nat → AAct → AHeap → Prop} {n i : Nat} : loopP I n K (.exit i) a h = K (.exit i) a h := Eq.trans rfl rfl
@[go_sem] theorem loopP_ret {I : Nat → AAct → AHeap → Prop} {n : Nat} : loopP I n K .ret a h = K .ret a h := Eq.trans rfl rfl
@[go_sem] theorem loopP_pan {I : Nat → AAct → AHeap → Prop} {n : Nat} {v : AV} : loopP I n K (.pan v) a h = K (.pan v) a h := Eq.trans rfl rfl
attribute [go_sem] resA loadA one Lv.val
end
attribute [go_sem] Int.tdiv_eq_ediv_of_nonneg Int.tmod_eq_emod_of_nonneg
def lenA : AV → Option Int
  | .slice _ _ len _ _ => some len
  | .nilSlice => some 0
  | _ => none
def lenR (h : AHeap) : Option Int → Option Res
  | some n => some (.v (.int .i64 n) h .free)
  | none => none
@[go_sem] theorem lenR_some {n : Int} : lenR h (some n) = some (.v (.int .i64 n) h .free) := Eq.trans rfl rfl
@[go_sem] theorem lenA_slice {b o l c : Nat} {e : Bool} : lenA (.slice b o l c e) = some (l : Int) := Eq.trans rfl rfl
@[go_sem] theorem lenA_nil : lenA .nilSlice = some 0 := Eq.trans rfl rfl
@[go_sem high] theorem evO_lenL {x : Opd} : evO a (.lenL x) h = lenR h (lenA (a.eval x)) := by
  simp only [evO, evOp]
  cases a.eval x <;> rfl
@[go_sem] theorem evO_mov {x : Opd} : evO a (.mov x) h = ( some (.v (a.eval x) h .free)) := Eq.trans rfl rfl
@[go_sem] theorem evO_pick {c : Opd} {x : Opd} {y : Opd} : evO a (.pick c x y) h = ( match a.eval c with | .bool b => some (.v (bif b then a.eval x else a.eval y) h .free) | _ => none) := Eq.trans rfl rfl
@[go_sem] theorem evO_new {zs : List AV} : evO a (.new zs) h = ( some (.v (.ptr h.n 0) (h.alloc (.cells .own 0 zs)) .new)) := Eq.trans rfl rfl
@[go_sem] theorem evO_box {x : Opd} : evO a (.box x) h = ( bif allFlat (a.eval x).cells then some (.v (.ptr h.n 0) (h.alloc (.cells .own 0 (a.eval x).cells)) .new) else none) := Eq.trans rfl rfl
@[go_sem] theorem evO_build {zs : List AV} {parts : List (Nat × Nat × Opd)} : evO a (.build zs parts) h = ( match fillA a.eval zs parts with | some cs => some (.v (.agg cs) h .free) | none => none) := Eq.trans rfl rfl
@[go_sem] theorem evO_bslice {es : Nat} {zs : List AV} {len : Nat} {parts : List (Nat × Nat × Opd)} : evO a (.bslice es zs len parts) h = ( match fillA a.eval zs parts with
    | some cs => bif allFlat cs then some (.v (.slice h.n 0 len len true) (h.alloc (.cells .own es cs)) .new) else none
    | none => none) := Eq.trans rfl rfl
@[go_sem] theorem evO_load {agg : Bool} {n : Nat} {x : Opd} : evO a (.load agg n x) h = ( match a.eval x with
    | .ptr b o => match h.get b with
      | some ⟨_, .cells _ _ vs⟩ =>
        bif agg then match row vs o n with | some cs => some (.v (.agg cs) h (.rd b)) | none => none
        else match vs[o]? with | some v => some (.v v h (.rd b)) | none => none
      | _ => none
    | _ => none) := Eq.trans rfl rfl
@[go_sem] theorem evO_store {n : Nat} {x : Opd} {y : Opd} : evO a (.store n x y) h = ( match a.eval x with
    | .ptr b o =>
            bif !((a.eval y).cells.length.beq n) || !allFlat (a.eval y).cells then none else
      match h.get b with
      | some ⟨ver, .cells .own es vs⟩ => match lay vs o (a.eval y).cells with
        | some vs' => some (.v undefA (h.upd b (ver + 1) (.cells .own es vs')) (.wr b))
        | none => none
      | _ => none
    | _ => none) := Eq.trans rfl rfl
@[go_sem] theorem evO_nilck {x : Opd} : evO a (.nilck x) h = ( match a.eval x with
    | .ptr b o => some (.v (.ptr b o) h .free)
    | .iface t v => some (.v (.iface t v) h .free)
    | _ => none) := Eq.trans rfl rfl
@[go_sem] theorem evO_bin {op : BinOp} {x : Opd} {y : Opd} : evO a (.bin op x y) h = ( match binA op (a.eval x) (a.eval y) with | some v => some (.v v h .free) | none => none) := Eq.trans rfl rfl
@[go_sem] theorem evO_eqv {neg : Bool} {t : KT} {x : Opd} {y : Opd} : evO a (.eqv neg t x y) h = ( match eqT t (a.eval x) (a.eval y) with | some b => some (.v (.bool (bif neg then !b else b)) h .free) | none => none) := Eq.trans rfl rfl
@[go_sem] theorem evO_un {op : UnOp} {x : Opd} : evO a (.un op x) h = ( match unA op (a.eval x) with | some v => some (.v v h .free) | none => none) := Eq.trans rfl rfl
@[go_sem] theorem evO_cvi {k : IntKind} {x : Opd} : evO a (.cvi k x) h = ( match a.eval x with | .int _ n => some (.v (.int k (wr k n)) h .free) | _ => none) := Eq.trans rfl rfl
@[go_sem] theorem evO_cvbs {x : Opd} : evO a (.cvbs x) h = ( match a.eval x with
    | .nilSlice => some (.v (.str []) h .free)
    | .slice b o len _ _ =>
      bif len.beq 0 then some (.v (.str []) h .free) else
      match h.get b with
      | some ⟨_, .cells _ _ vs⟩ => match row vs o len with
        | some cs => match bytesOf cs with | some s => some (.v (.str s) h (.rd b)) | none => none
        | none => none
      | _ => none
    | _ => none) := Eq.trans rfl rfl
@[go_sem] theorem evO_cvs {x : Opd} : evO a (.cvs x) h = ( match a.eval x with | .str s => some (.v (.str s) h .free) | _ => none) := Eq.trans rfl rfl
@[go_sem] theorem evO_mkif {t : TypeId} {x : Opd} : evO a (.mkif t x) h = ( some (.v (.iface t (a.eval x)) h .free)) := Eq.trans rfl rfl
@[go_sem] theorem evO_mkfn {fn : Fn} {fs : List Opd} {cs : List Opd} : evO a (.mkfn fn fs cs) h = ( some (.v (.func fn (fs.map a.eval) (cs.map a.eval)) h .free)) := Eq.trans rfl rfl
@[go_sem] theorem evO_mkmap  : evO a (.mkmap) h = ( some (.v (.map h.n) (h.alloc (.amap [])) .new)) := Eq.trans rfl rfl
@[go_sem] theorem evO_mkslice {es : Nat} {bytes : Nat} {zs : List AV} {l : Opd} {c : Opd} : evO a (.mkslice es bytes zs l c) h = ( match a.eval l, a.eval c with
    | .int _ l, .int _ c =>
      bif decide (0 ≤ l) && decide (l ≤ c) && decide (c ≤ (room : Int)) && decide (c * (bytes : Int) ≤ (room : Int)) then
        some (.v (.slice h.n 0 l.toNat c.toNat true) (h.alloc (.cells .own es (repl zs c.toNat))) .new)
      else none
    | _, _ => none) := Eq.trans rfl rfl
@[go_sem] theorem evO_slc {es : Nat} {x : Opd} {lo : Option Opd} {hi : Option Opd} {mx : Option Opd} : evO a (.slc es x lo hi mx) h = ( match a.eval x with
    | .nilSlice => match bnd (mx.map a.eval) 0 0 with
      | some m => match bnd (hi.map a.eval) 0 m with
        | some hh => match bnd (lo.map a.eval) 0 hh with | some _ => some (.v .nilSlice h .free) | none => none
        | none => none
      | none => none
    | .slice b o len cap ex => match bnd (mx.map a.eval) cap cap with
      | some m => match bnd (hi.map a.eval) len m with
        | some hh => match bnd (lo.map a.eval) 0 hh with
          | some l =>
            let ex' := ex || mx.isSome
            bif ex then some (.v (.slice b (bif m.beq l then o else o + l * es) (hh - l) (m - l) ex') h .free)
            else bif cap.beq 0 then none else bif m.beq l && mx.isSome then
              bif l.beq 0 then some (.v (.slice b o 0 0 true) h .free) else none
            else match h.get b with
              | some ⟨_, .cells _ es' _⟩ => bif es'.beq es then some (.v (.slice b (o + l * es) (hh - l) (m - l) ex') h (.rd b)) else none
              | _ => none
          | none => none
        | none => none
      | none => none
    | _ => none) := Eq.trans rfl rfl
@[go_sem] theorem evO_sls {x : Opd} {lo : Option Opd} {hi : Option Opd} : evO a (.sls x lo hi) h = ( match a.eval x with
    | .str s => match bnd (hi.map a.eval) s.length s.length with
      | some hh => match bnd (lo.map a.eval) 0 hh with
        | some l => some (.v (.str ((s.drop l).take (hh - l))) h .free)
        | none => none
      | none => none
    | _ => none) := Eq.trans rfl rfl
@[go_sem] theorem evO_faddr {off : Nat} {x : Opd} : evO a (.faddr off x) h = ( match a.eval x with | .ptr b o => some (.v (.ptr b (o + off)) h .free) | _ => none) := Eq.trans rfl rfl
@[go_sem] theorem evO_fld {agg : Bool} {off : Nat} {n : Nat} {x : Opd} : evO a (.fld agg off n x) h = ( match a.eval x with
    | .agg cs =>
      bif agg then match row cs off n with | some cs => some (.v (.agg cs) h .free) | none => none
      else match cs[off]? with | some v => some (.v v h .free) | none => none
    | _ => none) := Eq.trans rfl rfl
@[go_sem] theorem evO_iaddr {es : Nat} {x : Opd} {i : Opd} : evO a (.iaddr es x i) h = ( match a.eval x, a.eval i with
    | .slice b o len _ _, .int _ i => bif decide (0 ≤ i) && decide (i < (len : Int)) then some (.v (.ptr b (o + i.toNat * es)) h .free) else none
    | _, _ => none) := Eq.trans rfl rfl
@[go_sem] theorem evO_idxs {x : Opd} {i : Opd} : evO a (.idxs x i) h = ( match a.eval x, a.eval i with
    | .str s, .int _ i => bif decide (0 ≤ i) then match s[i.toNat]? with | some c => some (.v (.int .u8 c.toNat) h .free) | none => none else none
    | _, _ => none) := Eq.trans rfl rfl
@[go_sem] theorem evO_idxa {agg : Bool} {len : Nat} {n : Nat} {x : Opd} {i : Opd} : evO a (.idxa agg len n x i) h = ( match a.eval x, a.eval i with
    | .agg cs, .int _ i =>
      bif decide (0 ≤ i) && decide (i < (len : Int)) then
        bif agg then match row cs (i.toNat * n) n with | some cs => some (.v (.agg cs) h .free) | none => none
        else match cs[i.toNat * n]? with | some v => some (.v v h .free) | none => none
      else none
    | _, _ => none) := Eq.trans rfl rfl
@[go_sem] theorem evO_lookup {t : KT} {zero : AV} {m : Opd} {k : Opd} {ok : Bool} : evO a (.lookup t zero m k ok) h = ( bif !keyOk t (a.eval k) then none else match a.eval m with
    | .nilMap => some (.v (bif ok then .tuple [zero, .bool false] else zero) h .free)
    | .map r => match h.get r with
      | some ⟨_, .amap es⟩ => match findA t (a.eval k) es with
        | some (some v) => some (.v (bif ok then .tuple [v, .bool true] else v) h .big)
        | some none => some (.v (bif ok then .tuple [zero, .bool false] else zero) h .big)
        | none => none
      | _ => none
    | _ => none) := Eq.trans rfl rfl
@[go_sem] theorem evO_mapupd {t : KT} {m : Opd} {k : Opd} {v : Opd} : evO a (.mapupd t m k v) h = ( bif !keyOk t (a.eval k) then none else match a.eval m with
    | .map r => match h.get r with
      | some ⟨ver, .amap es⟩ => match setA t (a.eval k) (a.eval v) es with
        | some es' => some (.v undefA (h.upd r (ver + 1) (.amap es')) .big)
        | none => none
      | _ => none
    | _ => none) := Eq.trans rfl rfl
@[go_sem] theorem evO_tassert {to : TypeId} {zero : AV} {x : Opd} : evO a (.tassert to zero x) h = ( match a.eval x with
    | .nilIface => some (.v (.tuple [zero, .bool false]) h .free)
    | .iface t v => some (.v (bif t.beq to then .tuple [v, .bool true] else .tuple [zero, .bool false]) h .free)
    | _ => none) := Eq.trans rfl rfl
@[go_sem] theorem evO_ext {x : Opd} {i : Nat} : evO a (.ext x i) h = ( match a.eval x with
    | .tuple vs => match vs[i]? with | some v => some (.v v h .free) | none => none
    | _ => none) := Eq.trans rfl rfl
@[go_sem] theorem evO_lenS {x : Opd} : evO a (.lenS x) h = ( match a.eval x with
    | .str s => some (.v (.int .i64 s.length) h .free)
    | _ => none) := Eq.trans rfl rfl
@[go_sem] theorem evO_lenM {x : Opd} : evO a (.lenM x) h = ( match a.eval x with
    | .nilMap => some (.v (.int .i64 0) h .free)
    | .map r => match h.get r with | some ⟨_, .amap es⟩ => some (.v (.int .i64 es.length) h .big) | _ => none
    | _ => none) := Eq.trans rfl rfl
@[go_sem] theorem evO_append {es : Nat} {bytes : Nat} {s : Opd} {x : Opd} : evO a (.append es bytes s x) h = ( match elems h es (a.eval x) with
    | some (n, new) => match appendA h es bytes (a.eval s) n new with | some (v, h') => some (.v v h' .big) | none => none
    | none => none) := Eq.trans rfl rfl
@[go_sem] theorem evO_appendz {es : Nat} {bytes : Nat} {zs : List AV} {s : Opd} {x : Opd} : evO a (.appendz es bytes zs s x) h = ( match a.eval x with
    | .int .i64 n => bif decide (0 ≤ n) && decide (n ≤ (room : Int)) && decide (n * (bytes : Int) ≤ (room : Int)) then
        match appendA h es bytes (a.eval s) n.toNat (repl zs n.toNat) with | some (v, h') => some (.v v h' .big) | none => none
      else none
    | _ => none) := Eq.trans rfl rfl
@[go_sem] theorem evO_copy {es : Nat} {d : Opd} {s : Opd} : evO a (.copy es d s) h = ( match elems h es (a.eval s), a.eval d with
    | some (n, cs), .slice b o len _ _ =>
      bif (Nat.min n len).beq 0 then some (.v (.int .i64 0) h .big) else
      match h.get b with
      | some ⟨ver, .cells .own es' vs⟩ => bif !allFlat (cs.take (Nat.min n len * es)) then none else match lay vs o (cs.take (Nat.min n len * es)) with
        | some vs' => some (.v (.int .i64 (Nat.min n len)) (h.upd b (ver + 1) (.cells .own es' vs')) .big)
        | none => none
      | _ => none
    | some _, .nilSlice => some (.v (.int .i64 0) h .big)
    | _, _ => none) := Eq.trans rfl rfl
@[go_sem] theorem evO_mx {isMax : Bool} {x : Opd} {xs : List Opd} : evO a (.mx isMax x xs) h = ( match mxA isMax (a.eval x) (xs.map a.eval) with | some v => some (.v v h .free) | none => none) := Eq.trans rfl rfl
@[go_sem] theorem evO_iarr {len : Nat} {es : Nat} {x : Opd} {i : Opd} : evO a (.iarr len es x i) h = ( match a.eval x, a.eval i with
    | .ptr b o, .int _ i => bif decide (0 ≤ i) && decide (i < (len : Int)) then some (.v (.ptr b (o + i.toNat * es)) h .free) else none
    | _, _ => none) := Eq.trans rfl rfl
@[go_sem] theorem evO_slarr {len : Nat} {es : Nat} {x : Opd} {lo : Option Opd} {hi : Option Opd} {mx : Option Opd} : evO a (.slarr len es x lo hi mx) h = ( match a.eval x with
    | .ptr b o => match bnd (mx.map a.eval) len len with
      | some m => match bnd (hi.map a.eval) len m with
        | some hh => match bnd (lo.map a.eval) 0 hh with
          | some l => some (.v (.slice b (bif m.beq l then o else o + l * es) (hh - l) (m - l) true) h .free)
          | none => none
        | none => none
      | none => none
    | _ => none) := Eq.trans rfl rfl
@[go_sem] theorem evO_panic {x : Opd} : evO a (.panic x) h = ( match a.eval x with | .iface t v => some (.pan (.iface t v) h) | _ => none) := Eq.trans rfl rfl
@[go_sem] theorem evO_defer {f : Opd} : evO a (.defer f) h = ( match a.eval f with | .func (.func f) fs cs => some (.df f (fs ++ cs)) | _ => none) := Eq.trans rfl rfl
@[go_sem] theorem evO_recover  : evO a (.recover) h = ( none) := Eq.trans rfl rfl
attribute [go_sem] Int.cast_ofNat_Int
@[go_sem] theorem blt_nat {m n : Nat} : m.blt n = decide (m < n) := by
  show (m + 1).ble n = _
  rw [ble_nat]
  rfl
@[go_sem] theorem dec_le {m n : Nat} (h : m ≤ n) : decide (m ≤ n) = true := decide_eq_true h
@[go_sem] theorem dec_le_f {m n : Nat} (h : n < m) : decide (m ≤ n) = false := decide_eq_false (by omega)
@[go_sem] theorem dec_lt {m n : Nat} (h : m < n) : decide (m < n) = true := decide_eq_true h
@[go_sem] theorem dec_lt_f {m n : Nat} (h : n ≤ m) : decide (m < n) = false := decide_eq_false (by omega)
@[go_sem] theorem deci_le {m n : Int} (h : m ≤ n) : decide (m ≤ n) = true := decide_eq_true h
@[go_sem] theorem deci_lt {m n : Int} (h : m < n) : decide (m < n) = true := decide_eq_true h
attribute [go_sem] Tr.get_del
@[go_sem] theorem dels_nil {t : Tr AV} : dels [] t = t := Eq.trans rfl rfl
@[go_sem] theorem dels_st {i d b : Nat} {op : MOp} {g : Option (Nat × Bool)} {l : List (Nat × MOper)} {t : Tr AV} : dels ((i, ⟨some d, op, g, b⟩) :: l) t = dels l (t.del d) := Eq.trans rfl rfl
@[go_sem] theorem dels_no {i b : Nat} {op : MOp} {g : Option (Nat × Bool)} {l : List (Nat × MOper)} {t : Tr AV} : dels ((i, ⟨none, op, g, b⟩) :: l) t = dels l t := Eq.trans rfl rfl
attribute [go_sem]  elems AHeap.ver
attribute [go_sem] Tr.get_set Option.getD_some List.map_cons List.map_nil initTm calleeA MOp.isCall cond_true cond_false beq_true beq_false
end
attribute [irreducible] cutP wantP wantPD condP opP opPD callP callPD sqP blP loopP finP finLP defP defP0 kindP kindPD skipPD recPD wpOps wpD wpC WF WCall resP WDef
end Go.Ev
/- Short words for the operations of a printed table. -/
namespace Go.Ev
open Go

def oT (d : Nat) (op : MOp) : MOper := ⟨some d, op, none, 0⟩
def oN (op : MOp) : MOper := ⟨none, op, none, 0⟩
def oG (d g : Nat) (op : MOp) : MOper := ⟨some d, op, some (g, true), 0⟩
def oH (d g : Nat) (op : MOp) : MOper := ⟨some d, op, some (g, false), 0⟩
def oD (i d b : Nat) (op : MOp) : Nat × MOper := (i, ⟨some d, op, none, b⟩)
def oE (i b : Nat) (op : MOp) : Nat × MOper := (i, ⟨none, op, none, b⟩)
section
variable {F : FT} {a : AAct} {h : AHeap} {K : Post} {d g i b : Nat} {op : MOp} {r : List MOper} {all l : List (Nat × MOper)} {rs : List Rec} {pan : Option (Nat × AV)}
@[go_sem] theorem wpOps_oT : wpOps F (oT d op :: r) a h K = kindP F (wpOps F r) op.isCall (some d) op a h K := by
  show wpOps F (⟨some d, op, none, 0⟩ :: r) a h K = _
  rw [wpOps_cons, wanted_none, wantP_yes]
@[go_sem] theorem wpOps_oN : wpOps F (oN op :: r) a h K = kindP F (wpOps F r) op.isCall none op a h K := by
  show wpOps F (⟨none, op, none, 0⟩ :: r) a h K = _
  rw [wpOps_cons, wanted_none, wantP_yes]
@[go_sem] theorem wpOps_oG : wpOps F (oG d g op :: r) a h K = wantP F (wpOps F r) (wantedA a (some (g, true))) ⟨some d, op, some (g, true), 0⟩ a h K := wpOps_cons
@[go_sem] theorem wpOps_oH : wpOps F (oH d g op :: r) a h K = wantP F (wpOps F r) (wantedA a (some (g, false))) ⟨some d, op, some (g, false), 0⟩ a h K := wpOps_cons
@[go_sem] theorem wpD_oD : wpD F all (oD i d b op :: l) rs pan a h K = skipPD F (wpD F all l) (skipsD b pan) i ⟨some d, op, none, b⟩ a h rs pan K := wpD_cons
@[go_sem] theorem wpD_oE : wpD F all (oE i b op :: l) rs pan a h K = skipPD F (wpD F all l) (skipsD b pan) i ⟨none, op, none, b⟩ a h rs pan K := wpD_cons
@[go_sem] theorem dels_oD {t : Tr AV} : dels (oD i d b op :: l) t = dels l (t.del d) := Eq.trans rfl rfl
@[go_sem] theorem dels_oE {t : Tr AV} : dels (oE i b op :: l) t = dels l t := Eq.trans rfl rfl
end
section
variable {F : FT} {f f2 : AAct → AHeap → Post → Prop} {a : AAct} {h : AHeap} {K : Post} {o : MOper} {fd : List Rec → Option (Nat × AV) → AAct → AHeap → Post → Prop} {i : Nat} {rs : List Rec} {pan : Option (Nat × AV)} {c : Bool}
theorem kA (h1 : c = false → f a h K) (h2 : c = true → f2 a h K) : condP f f2 (.bool (!c)) a h K := condP_splitN h1 h2
theorem kB (h1 : c = false → wantP F f true o a h K) (h2 : c = true → wantP F f false o a h K) : wantP F f (!c) o a h K := wantP_splitN h1 h2
theorem kC (h1 : c = false → wantPD F fd true i o a h rs pan K) (h2 : c = true → wantPD F fd false i o a h rs pan K) : wantPD F fd (!c) i o a h rs pan K := wantPD_splitN h1 h2
theorem kD (h1 : c = true → f a h K) (h2 : c = false → f2 a h K) : condP f f2 (.bool c) a h K := condP_split h1 h2
theorem kE (h1 : c = true → wantP F f true o a h K) (h2 : c = false → wantP F f false o a h K) : wantP F f c o a h K := wantP_split h1 h2
theorem kF (h1 : c = true → wantPD F fd true i o a h rs pan K) (h2 : c = false → wantPD F fd false i o a h rs pan K) : wantPD F fd c i o a h rs pan K := wantPD_split h1 h2
end
/-- Lengths and sizes, for side conditions. -/
theorem hN : (∀ (h : AHeap) (o : AObj), (h.alloc o).n = h.n + 1) ∧ (∀ (h : AHeap) (b v : Nat) (o : AObj), (h.upd b v o).n = h.n) ∧ (∀ (x : AV) (l : List AV), (x :: l).length = l.length + 1) ∧ (([] : List AV).length = 0) ∧ (∀ l m : List AV, (l ++ m).length = l.length + m.length) ∧ (∀ (x : UInt8) (l : List UInt8), (x :: l).length = l.length + 1) ∧ (([] : List UInt8).length = 0) ∧ (∀ l m : List UInt8, (l ++ m).length = l.length + m.length) := ⟨fun _ _ => rfl, fun _ _ _ _ => rfl, fun _ _ => rfl, rfl, fun _ _ => List.length_append, fun _ _ => rfl, rfl, fun _ _ => List.length_append⟩
attribute [go_sem] beq_self_eq_true bne_self_eq_false
end Go.Ev
/- From the evaluator's answer to the row: the first heap, the run, what a call leaves. -/
namespace Go.Ev
open Go Go.ChangeShapes Go.WideShapes Go.RowKit

/-- Facts on all of a table's entries. -/
def Tr.AllP {α : Type} (p : Nat → α → Prop) : Tr α → (Nat → Nat) → Prop
  | .nil, _ => True
  | .node l v r, g => (∀ x, v = some x → p (g 0) x) ∧ Tr.AllP p l (fun k => g (2 * k + 1)) ∧ Tr.AllP p r (fun k => g (2 * k + 2))
theorem Tr.all_get {α : Type} {p : Nat → α → Prop} : ∀ {t : Tr α} {g : Nat → Nat} {n : Nat} {x : α}, Tr.AllP p t g → t.get n = some x → p (g n) x
  | .nil, g, n, x, _, h => by simp [Tr.get] at h
  | .node l v r, g, n, x, ha, h => by
    obtain ⟨h0, hl, hr⟩ := ha
    unfold Tr.get at h
    by_cases e : n = 0
    · subst e
      rw [Nat.beq_refl] at h
      exact h0 x h
    · rw [beqF e] at h
      simp only [cond_false] at h
      by_cases e1 : n % 2 = 1
      · rw [beqT e1] at h
        have := Tr.all_get hl h
        rwa [show 2 * (n / 2) + 1 = n by omega] at this
      · rw [beqF e1] at h
        have := Tr.all_get hr h
        rwa [show 2 * (n / 2 - 1) + 2 = n by omega] at this
def FRow (P : Program) (f : Nat) (m : MFun) : Prop :=
  match m with
  | .prim p => PrimOk P f p
  | .code nt body res => ∃ fn, P.funcs[f]? = some fn ∧ cFunc P fn = some (.code nt body res)
def MFun.isCode : MFun → Bool
  | .code _ _ _ => true
  | .prim _ => false
theorem FRow.code {P : Program} {f : Nat} {fn : Func} {m : MFun} (hf : P.funcs[f]? = some fn) (hc : cFunc P fn = some m) (hm : m.isCode = true) : ∀ x, some m = some x → FRow P f x := by
  intro x e
  cases e
  cases m with
  | code nt body res => exact ⟨fn, hf, hc⟩
  | prim p => cases hm
theorem FRow.no {P : Program} {f : Nat} : ∀ x, (none : Option MFun) = some x → FRow P f x := fun _ e => by cases e
theorem FRow.prim {P : Program} {f : Nat} {p : List AV → AHeap → Option (CRes × AHeap)} (h : PrimOk P f p) : ∀ x, some (MFun.prim p) = some x → FRow P f x := fun x e => by cases e; exact h
theorem fok_of {P : Program} {t : Tr MFun} (h : Tr.AllP (FRow P) t (fun n => n)) : FOk P t.get := fun f m e => by
  have := Tr.all_get h e
  exact this

def PRow (_ : Nat) (m : MFun) : Prop := ∀ p, m = .prim p → ∀ args h r h', p args h = some (r, h') → HSt h h'
theorem PRow.no {f : Nat} : ∀ x, (none : Option MFun) = some x → PRow f x := fun _ e => by cases e
theorem PRow.code {f : Nat} {m : MFun} (hm : m.isCode = true) : ∀ x, some m = some x → PRow f x := fun x e => by
  cases e
  intro p e2
  subst e2
  cases hm
theorem PRow.prim {f : Nat} {p : List AV → AHeap → Option (CRes × AHeap)} (h : ∀ args h r h', p args h = some (r, h') → HSt h h') : ∀ x, some (MFun.prim p) = some x → PRow f x := fun x e => by
  cases e
  intro q e2
  cases e2
  exact h
theorem primsH_of {t : Tr MFun} (h : Tr.AllP PRow t (fun n => n)) : PrimsH t.get := fun _ p e => Tr.all_get h e p rfl

/-- A sentinel as the program's initialiser lays it. -/
def SentAt (W : World) (T : TypeId) (g : Nat) (text : List UInt8) (c o : Nat) : Prop :=
  (∃ Tg, W.heap[g]? = some (.cells #[.iface T (.pointer (some ⟨c, o, none⟩))] Tg (0, 0))) ∧ ∃ cs Tc, W.heap[c]? = some (.cells cs Tc (0, 0)) ∧ cs[o]? = some (.string ⟨⟨text⟩⟩)

theorem laid_head {P : Program} {n nm : String} {text : List UInt8} {r : List (String × DataW Unit)} {W : World} {g : Nat} {ti tp te ts : TypeId} {ms : Array (String × TypeId)} {f : Field}
    (h : laidMet P ((n, .iface nm (.ptr (.agg [.lit (.string text)]))) :: r) W)
    (hg : P.globalNamed n = some g) (ht : (P.globals[g]?).map (·.type) = some ti) (hi : P.underlying ti = some (.interface ms)) (hrow : ∀ u, P.typeName? 3 u = some nm → u = tp)
    (hp : P.underlying tp = some (.pointer te)) (he : P.underlying te = some (.struct #[f])) (hft : f.type = ts) (hfo : f.offset = 0) (hs : P.underlying ts = some .string) (hc : P.cellsOf te = 1) (hcs : P.cellsOf ts = 1) :
    ∃ c o, SentAt W tp g text c o := by
  obtain ⟨ps, ⟨g0, t0, cs0, f0, p0, q0, hg0, ht0, hv0, hd0, _, e0⟩, _, hrows⟩ := h
  obtain rfl := Option.some.inj (hg.symm.trans hg0)
  obtain rfl := Option.some.inj (ht.symm.trans ht0)
  subst e0
  obtain ⟨l0⟩ := cs0
  have ok0 : ∀ u v, l0 = [.iface u v] → Value.okWide P W .any 0 u v := fun u v e => by
    subst e
    exact (hrows g 0 (by simp [MemPlace.row])).2 u v (by simpa using World.var?_cell hg0 hv0 0)
  obtain ⟨a, s, rfl, hc0, hs0, _, rfl⟩ := errorString_of_trod hi hrow hp he hft hfo hs hc hcs hd0 ok0
  obtain ⟨cg, tg, hbg⟩ := (hrows g 0 (by simp [MemPlace.row])).1
  obtain ⟨ca, ta, hba⟩ := (hrows a.block a.off (by simp [MemPlace.row])).1
  have hvar : W.heap[g]? = some (.cells #[.iface tp (.pointer (some a))] tg (0, 0)) := by
    have h1 := hv0
    unfold World.var? at h1
    rw [hg, Option.bind_some, hbg] at h1
    simp only [Option.some.injEq] at h1
    rw [hbg, h1]
  obtain ⟨c, o, sp⟩ := a
  have hcell := hc0
  unfold World.cell? at hcell
  simp only at hba hcell
  rw [hba] at hcell
  simp only at hcell
  cases sp with
  | some x => simp at hcell
  | none =>
    simp only [Option.isSome_none, Bool.false_eq_true, if_false] at hcell
    refine ⟨c, o, ⟨tg, hvar⟩, ca, ta, hba, ?_⟩
    rw [hcell, ← hs0]

/-- All of a list of sentinels. -/
def laidRow {H : Type} (nm : String) (x : String × List UInt8) : String × DataW H := (x.1, .iface nm (.ptr (.agg [.lit (.string x.2)])))
theorem laid_all {P : Program} {nm : String} {W : World} {ti tp te ts : TypeId} {ms : Array (String × TypeId)} {f : Field}
    (hi : P.underlying ti = some (.interface ms)) (hrow : ∀ u, P.typeName? 3 u = some nm → u = tp)
    (hp : P.underlying tp = some (.pointer te)) (he : P.underlying te = some (.struct #[f])) (hft : f.type = ts) (hfo : f.offset = 0) (hs : P.underlying ts = some .string) (hc : P.cellsOf te = 1) (hcs : P.cellsOf ts = 1) :
    ∀ (L : List (String × List UInt8)) (gs : List Nat), laidMet P (L.map (laidRow nm)) W → L.map (fun x => P.globalNamed x.1) = gs.map some → (∀ g ∈ gs, (P.globals[g]?).map (·.type) = some ti) → ∀ (i g : Nat) (text : List UInt8), gs[i]? = some g → (L[i]?).map (fun x : String × List UInt8 => x.2) = some text → ∃ c o, SentAt W tp g text c o
  | [], _, _, _, _, i, g, text, _, h2 => by simp at h2
  | x :: L, [], _, h, _, _, _, _, _, _ => by simp at h
  | x :: L, g0 :: gs, hL, hn, ht, i, g, text, h1, h2 => by
    simp only [List.map_cons, List.cons.injEq] at hn
    cases i with
    | zero =>
      simp at h1 h2
      subst h1 h2
      exact laid_head hL hn.1 (ht _ (List.mem_cons_self)) hi hrow hp he hft hfo hs hc hcs
    | succ i =>
      simp only [List.getElem?_cons_succ] at h1 h2
      exact laid_all hi hrow hp he hft hfo hs hc hcs L gs hL.tail hn.2 (fun g hg => ht g (List.mem_cons_of_mem _ hg)) i g text h1 h2

/-- The first heap: so many variables, the first of them errors; their texts; what the arguments hold. -/
def heap0 (T NG K : Nat) (txt : Nat → List UInt8) (m : Nat) (xs : Nat → AObj) : AHeap :=
  mkHeap (fun b => if b < K then some ⟨0, .cells .ro 0 [.iface T (.ptr (NG + b) 0)]⟩ else if b < NG then some ⟨0, .dead⟩ else if b < NG + K then some ⟨0, .cells .sent 0 [.str (txt (b - NG))]⟩ else some ⟨0, xs (b - (NG + K))⟩) (NG + K + m)
def iota0 (NG K : Nat) (c o : Nat → Nat) (m : Nat) (xi : Nat → Nat × Nat) : Mp := fun b =>
  if b < NG then some (b, 0) else if b < NG + K then some (c (b - NG), o (b - NG)) else if b < NG + K + m then some (xi (b - (NG + K))) else none
theorem heap0_get {T NG K : Nat} {txt : Nat → List UInt8} {m : Nat} {xs : Nat → AObj} (b : Nat) : (heap0 T NG K txt m xs).get b = if b < NG + K + m then (if b < K then some ⟨0, .cells .ro 0 [.iface T (.ptr (NG + b) 0)]⟩ else if b < NG then some ⟨0, .dead⟩ else if b < NG + K then some ⟨0, .cells .sent 0 [.str (txt (b - NG))]⟩ else some ⟨0, xs (b - (NG + K))⟩) else none := mkHeap_get _ _ _
theorem heap0_n {T NG K : Nat} {txt : Nat → List UInt8} {m : Nat} {xs : Nat → AObj} : (heap0 T NG K txt m xs).n = NG + K + m := rfl

section
variable {P : Program} {T K : Nat} {txt : Nat → List UInt8} {m : Nat} {xs : Nat → AObj} {xi : Nat → Nat × Nat} {c o : Nat → Nat} {W : World}

theorem rel0 (hK : K ≤ P.globals.size) (hsz : P.globals.size ≤ W.heap.size) (hs : ∀ g, g < K → SentAt W T g (txt g) (c g) (o g))
    (hro : ∀ j, j < m → ∃ es vs, xs j = .cells .ro es vs)
    (hx : ∀ j, j < m → (xi j).1 < W.heap.size ∧ ORel (iota0 P.globals.size K c o m xi) (infoOf (heap0 T P.globals.size K txt m xs).get) (wsz W) W (xi j).1 (xi j).2 (xs j)) :
    Rel (iota0 P.globals.size K c o m xi) (heap0 T P.globals.size K txt m xs) W where
  dom b c' p e := by
    rw [heap0_n]
    unfold iota0 at e
    split at e
    · omega
    · split at e
      · omega
      · split at e
        · assumption
        · cases e
  lt b x e := by
    rw [heap0_get] at e
    rw [heap0_n]
    split at e
    · assumption
    · cases e
  obj b c' p e := by
    have hi : ∀ b, iota0 P.globals.size K c o m xi b = if b < P.globals.size then some (b, 0) else if b < P.globals.size + K then some (c (b - P.globals.size), o (b - P.globals.size)) else if b < P.globals.size + K + m then some (xi (b - (P.globals.size + K))) else none := fun _ => rfl
    rw [hi] at e
    by_cases h1 : b < P.globals.size
    · rw [if_pos h1] at e
      cases e
      by_cases h2 : b < K
      · obtain ⟨⟨Tg, hg⟩, cs, Tc, hc, ho⟩ := hs b h2
        refine ⟨⟨0, .cells .ro 0 [.iface T (.ptr (P.globals.size + b) 0)]⟩, by rw [heap0_get, if_pos (by omega), if_pos h2], by omega, _, _, _, _, hg, ?_, fun h => absurd rfl h, fun h => by cases h⟩
        intro i x hx
        cases i with
        | succ i => simp at hx
        | zero =>
          simp at hx
          subst hx
          refine ⟨_, rfl, ?_⟩
          simp only [VR]
          refine ⟨_, rfl, _, rfl, .inr ⟨c b, o b, ?_, rfl⟩⟩
          rw [hi, if_neg (by omega), if_pos (by omega), Nat.add_sub_cancel_left]
      · exact ⟨⟨0, .dead⟩, by rw [heap0_get, if_pos (by omega), if_neg h2, if_pos h1], by omega, trivial⟩
    · rw [if_neg h1] at e
      by_cases h2 : b < P.globals.size + K
      · rw [if_pos h2] at e
        cases e
        obtain ⟨_, cs, Tc, hc, ho⟩ := hs (b - P.globals.size) (by omega)
        refine ⟨⟨0, .cells .sent 0 [.str (txt (b - P.globals.size))]⟩, by rw [heap0_get, if_pos (by omega), if_neg (by omega), if_neg h1, if_pos h2], ?_, _, _, _, _, hc, ?_, fun _ => ⟨rfl, rfl⟩, fun h => by cases h⟩
        · rcases Nat.lt_or_ge (c (b - P.globals.size)) W.heap.size with h | h
          · exact h
          · rw [Array.getElem?_eq_none h] at hc; cases hc
        · intro i x hx
          cases i with
          | succ i => simp at hx
          | zero =>
            simp at hx
            subst hx
            exact ⟨_, ho, by simp only [VR]⟩
      · rw [if_neg h2] at e
        split at e
        · rename_i h3
          have e' := Option.some.inj e
          obtain ⟨g1, g2⟩ := hx (b - (P.globals.size + K)) (by omega)
          rw [e'] at g1 g2
          exact ⟨⟨0, xs (b - (P.globals.size + K))⟩, by rw [heap0_get, if_pos h3, if_neg (by omega), if_neg h1, if_neg h2], g1, g2⟩
        · cases e
  inj b b' c' p p' _ _ ow _ := by
    obtain ⟨f, e, h⟩ := ow
    exfalso
    unfold infoOf at h
    rw [heap0_get] at h
    split at h
    · rename_i x hx
      split at hx
      · split at hx
        · cases hx; cases h
        · split at hx
          · cases hx; cases h
          · split at hx
            · cases hx; cases h
            · rename_i h1 h2 h3 h4
              cases hx
              obtain ⟨es, vs, e2⟩ := hro (b - (P.globals.size + K)) (by omega)
              rw [e2] at h
              cases h
      · cases hx
    · cases h
theorem iota0_glob : Glob P (iota0 P.globals.size K c o m xi) := fun g hg => by unfold iota0; rw [if_pos hg]

end

section
variable {H : Type} {enc : TypeId × Value → H}
/-- The kit's builder, with one fact more: the variables' blocks are there. -/
theorem returns_open {a : Assume} {C : Checked} {os : Os} {f : FuncId} {fn : Func} {s : ChangeSpec} {conds : List PathCond} {apart fresh handsOn again : Bool} {X : World → Array Value → Prop}
    (hX : ∀ (w w' : World) (args : Array Value), w.heap = w'.heap → X w args → X w' args)
    (own : ownKnob C.prog.godebug = none) (started : os.Started) (noInit : C.prog.inits.idxOf? f = none) (hfn : C.prog.funcs[f]? = some fn)
    (h0 : C.prog.globals.size < (begin C.prog (fun _ _ => 0) default).world.heap.size)
    (witness : ∃ (w : World) (tape : Tape) (i : Input), w.os = os ∧ (w.forCall tape i).Shaped C.prog ∧ i.vars = [] ∧ Input.okWide C.prog (w.forCall tape i) .any w.heap.size f i ∧
      ((s.pre enc C.prog fn conds apart (w.forCall tape i).memory i.args ∧ X (w.forCall tape i).memory i.args) ∧ sizedMet enc C.prog fn (OpenSpec.ofChange s) apart (w.forCall tape i).memory i.args) ∧ a.holds C.prog (lone (Frame.enter C.prog f i.args .normal) [] (w.forCall tape i)))
    (contract : ∀ (W : World) (base : Nat) (args : Array Value) (ds gs : List (DataW H)) (before : List MemPlace), C.prog.globals.size ≤ W.heap.size →
      (∀ (j : Nat) t v, fn.params[j]? = some t → args[j]? = some v → Value.okWide C.prog W .any base t v) →
      DataW.Whole enc C.prog fn.params.toList s.vars apart W args.toList ds gs before →
      conds.all (PathCond.test C.prog ⟨fn.params.toList, ds, s.plain.varTypes C.prog, gs⟩) = true →
      (DataW.weightsEach C.prog (fn.params.toList ++ s.plain.varTypes C.prog) (ds ++ gs)).all (· ≤ reachBytes) = true → X W args →
      a.holds C.prog (lone (Frame.enter C.prog f args .normal) [] W) →
      Calls C.prog f args W fun e W' => ∃ v, e = .returned v ∧ s.post enc C.prog fn apart fresh handsOn again W args v W') :
    ReturnsInHanded a C os f .any (fun w args => (s.pre enc C.prog fn conds apart w args ∧ X w args) ∧ sizedMet enc C.prog fn (OpenSpec.ofChange s) apart w args) (s.post enc C.prog fn apart fresh handsOn again) := by
  refine returnsInHanded_of_calls own started noInit witness ?_
  intro w tape i _ hshape _ hok hpre hholds
  obtain ⟨_, _, _, fn', hfn', _, _, _, _, hval⟩ := hok
  have e : fn' = fn := Option.some.inj (hfn'.symm.trans hfn)
  subst e
  obtain ⟨⟨⟨ds, gs, before, hw, hc⟩, hx⟩, hz⟩ := hpre
  have hsz : C.prog.globals.size ≤ (w.forCall tape i).heap.size := by
    obtain ⟨o, _, ho, _⟩ := hshape.2 C.prog.globals.size (Nat.le_refl _) h0
    rcases Nat.lt_or_ge C.prog.globals.size (w.forCall tape i).heap.size with h | h
    · omega
    · rw [Array.getElem?_eq_none h] at ho; cases ho
  have hw' := DataW.Whole.of_heap (w' := w.forCall tape i) (by rfl) hw
  refine (contract (w.forCall tape i) w.heap.size i.args ds gs before hsz hval hw' hc (hz.weights hw) (hX _ _ _ (by rfl) hx) hholds).mono fun e W' ⟨v, he, hp⟩ => ?_
  subst he
  exact ChangeSpec.post_blind hp
end
end Go.Ev
/- A loop, by what holds ahead of each round and at the end. -/
namespace Go.Ev
open Go
section
variable {F : FT} {a : AAct} {h : AHeap} {K : Post}
/-- What is owed by a round: the next one, or what holds at the loop's end. -/
def loopX (I : Nat → AAct → AHeap → Prop) (J : AAct → AHeap → Prop) (n id : Nat) (K : Post) : Post
  | .norm, a, h => ∃ m, m < n ∧ I m a h
  | .exit i, a, h => if i = id then J a h else K (.exit i) a h
  | e, a, h => K e a h
theorem wp_loopx (id : Nat) (I : Nat → AAct → AHeap → Prop) (J : AAct → AHeap → Prop) {x : MCode} (step : ∀ n a h, I n a h → wpC F x a h (loopX I J n id K)) (hJ : ∀ a h, J a h → K (.exit id) a h) : ∀ (n : Nat) {a : AAct} {h : AHeap}, I n a h → wpC F (.loop x) a h K := by
  intro n a h hI
  refine wp_loop I (fun n a h hI => ?_) n hI
  refine wpC_mono x (fun e a h q => ?_) a h (step n a h hI)
  cases e with
  | norm => rw [loopP_norm]; exact q
  | exit i =>
    rw [loopP_exit]
    simp only [loopX] at q
    split at q
    · rename_i e; subst e; exact hJ _ _ q
    · exact q
  | ret => rw [loopP_ret]; exact q
  | pan v => rw [loopP_pan]; exact q
variable {I : Nat → AAct → AHeap → Prop} {J : AAct → AHeap → Prop} {n id i : Nat}
@[go_sem] theorem loopX_norm : loopX I J n id K .norm a h = ∃ m, m < n ∧ I m a h := Eq.trans rfl rfl
@[go_sem] theorem loopX_exit : loopX I J n id K (.exit i) a h = if i = id then J a h else K (.exit i) a h := Eq.trans rfl rfl
@[go_sem] theorem loopX_ret : loopX I J n id K .ret a h = K .ret a h := Eq.trans rfl rfl
@[go_sem] theorem loopX_pan {v : AV} : loopX I J n id K (.pan v) a h = K (.pan v) a h := Eq.trans rfl rfl
end
attribute [irreducible] loopX
@[go_sem] theorem wantB_undef {w : Bool} : wantB (some undefA) w = false := by cases w <;> rfl
section
variable {F : FT} {l : List MOper} {b : Bool} {o : MOper} {a : AAct} {h : AHeap} {K K' : Post}
theorem wantP_mono (hK : ∀ e a h, K e a h → K' e a h) (w : wantP F (wpOps F l) b o a h K) : wantP F (wpOps F l) b o a h K' := by
  obtain ⟨d, op, g, bf⟩ := o
  cases b with
  | true =>
    rw [wantP_yes] at w ⊢
    have := wpOps_mono (F := F) hK (⟨d, op, none, 0⟩ :: l) a h (by rw [wpOps_cons, wanted_none, wantP_yes]; exact w)
    rwa [wpOps_cons, wanted_none, wantP_yes] at this
  | false =>
    rw [wantP_no] at w ⊢
    exact wpOps_mono hK l _ _ w
theorem sq_mono {c : MCode} (hK : ∀ e a h, K e a h → K' e a h) (e : AExit) (a : AAct) (h : AHeap) (q : sqP (wpC F c) K e a h) : sqP (wpC F c) K' e a h := by
  cases e with
  | norm => rw [sqP_norm] at q ⊢; exact wpC_mono c hK _ _ q
  | exit i => rw [sqP_exit] at q ⊢; exact hK _ _ _ q
  | ret => rw [sqP_ret] at q ⊢; exact hK _ _ _ q
  | pan v => rw [sqP_pan] at q ⊢; exact hK _ _ _ q
theorem cut_sq {I : AAct → AHeap → Prop} {y : MCode} (hI : ∀ a h, I a h → wpC F y a h K) (e : AExit) (a : AAct) (h : AHeap) (q : cutP I K e a h) : sqP (wpC F y) K e a h := cutP_sq hI e a h q
/-- In the middle of a region: what holds behind the code that follows it. -/
theorem want_cut (I : AAct → AHeap → Prop) {c y : MCode} (w : wantP F (wpOps F l) b o a h (sqP (wpC F c) (cutP I K))) (hI : ∀ a h, I a h → wpC F y a h K) : wantP F (wpOps F l) b o a h (sqP (wpC F c) (sqP (wpC F y) K)) :=
  wantP_mono (sq_mono (cut_sq hI)) w
end
end Go.Ev
/- Arguments of ints, strings, structs and slices: how they lie in the first heap. -/
namespace Go.Ev
open Go

/-- What stands on a heap goes on. -/
structure Ext (ι : Mp) (h : AHeap) (ι' : Mp) (h' : AHeap) : Prop where
  n : h.n ≤ h'.n
  old : ∀ b, b < h.n → h'.get b = h.get b
  ext : ∀ b x, ι b = some x → ι' b = some x
theorem Ext.refl (ι : Mp) (h : AHeap) : Ext ι h ι h := ⟨Nat.le_refl _, fun _ _ => rfl, fun _ _ e => e⟩
theorem Ext.trans {ι ι' ι'' : Mp} {h h' h'' : AHeap} (a : Ext ι h ι' h') (b : Ext ι' h' ι'' h'') : Ext ι h ι'' h'' :=
  ⟨Nat.le_trans a.n b.n, fun c hc => (b.old c (Nat.lt_of_lt_of_le hc a.n)).trans (a.old c hc), fun c x e => b.ext c x (a.ext c x e)⟩
theorem Ext.info {ι ι' : Mp} {h h' : AHeap} (e : Ext ι h ι' h') {b : Nat} (hb : b < h.n) : infoOf h'.get b = infoOf h.get b := by unfold infoOf; rw [e.old b hb]
theorem info_lt {ι : Mp} {h : AHeap} {W : World} (r : Rel ι h W) {b : Nat} (hd : infoOf h.get b = .dead) : b < h.n := by
  unfold infoOf at hd
  split at hd
  · rename_i x hx; exact r.lt b x hx
  · cases hd
theorem Ext.grow {ι ι' : Mp} {h h' : AHeap} {W : World} (e : Ext ι h ι' h') (r : Rel ι h W) (sz : Nat → Nat) : Grow ι (infoOf h.get) sz ι' (infoOf h'.get) sz where
  ext := e.ext
  dead b hd := by rw [e.info (info_lt r hd)]; exact hd
  live b o f s x hx hl := by rw [e.info (r.dom b x.1 x.2 hx)]; exact .inl hl
  sz _ := Nat.le_refl _
def NoOwn (h : AHeap) : Prop := ∀ b, ¬ OwnL h b

/-- A row that is read alone is laid. -/
theorem lay_ro {ι : Mp} {h : AHeap} {W : World} (r : Rel ι h W) (no : NoOwn h) {c p es : Nat} {vs : List AV} (hc : c < W.heap.size) (ho : ORel ι (infoOf h.get) (wsz W) W c p (.cells .ro es vs)) :
    ∃ ι', Ext ι h ι' (h.alloc (.cells .ro es vs)) ∧ Rel ι' (h.alloc (.cells .ro es vs)) W ∧ NoOwn (h.alloc (.cells .ro es vs)) ∧ ι' h.n = some (c, p) := by
  have hno : ∀ x, ι h.n ≠ some x := fun x e => Nat.lt_irrefl _ (r.dom h.n x.1 x.2 e)
  let ι' : Mp := fun b => if b = h.n then some (c, p) else ι b
  have hi : ∀ b, ι' b = if b = h.n then some (c, p) else ι b := fun _ => rfl
  have e : Ext ι h ι' (h.alloc (.cells .ro es vs)) := ⟨by simp, fun b hb => by rw [AHeap.get_alloc, if_neg (by omega)], fun b x hx => by
    rw [hi, if_neg (by rintro rfl; exact hno x hx)]; exact hx⟩
  have hinf : ∀ b, b ≠ h.n → infoOf (h.alloc (.cells .ro es vs)).get b = infoOf h.get b := fun b hb => by unfold infoOf; rw [AHeap.get_alloc, if_neg hb]
  have hnew : infoOf (h.alloc (.cells .ro es vs)).get h.n = .live false false es := by unfold infoOf; rw [AHeap.get_alloc, if_pos rfl]; rfl
  have no' : NoOwn (h.alloc (.cells .ro es vs)) := by
    rintro b ⟨f, s, hb⟩
    by_cases e1 : b = h.n
    · subst e1; rw [hnew] at hb; cases hb
    · rw [hinf b e1] at hb; exact no b ⟨f, s, hb⟩
  refine ⟨ι', e, ?_, no', by rw [hi, if_pos rfl]⟩
  exact {
    dom := fun b c' p' hb => by
      rw [hi] at hb
      split at hb
      · simp only [AHeap.alloc_n]; omega
      · have := r.dom b c' p' hb; simp only [AHeap.alloc_n]; omega
    lt := fun b x hb => by
      rw [AHeap.get_alloc] at hb
      split at hb
      · simp only [AHeap.alloc_n]; omega
      · have := r.lt b x hb; simp only [AHeap.alloc_n]; omega
    obj := fun b c' p' hb => by
      rw [hi] at hb
      by_cases e1 : b = h.n
      · rw [if_pos e1] at hb
        cases hb
        exact ⟨⟨0, .cells .ro es vs⟩, by rw [AHeap.get_alloc, if_pos e1], hc, ORel.mono (e.grow r _) rfl ho⟩
      · rw [if_neg e1] at hb
        obtain ⟨x, hx, h1, h2⟩ := r.obj b c' p' hb
        exact ⟨x, by rw [AHeap.get_alloc, if_neg e1]; exact hx, h1, ORel.mono (e.grow r _) rfl h2⟩
    inj := fun b b' c' p' p'' _ _ ow _ => absurd ow (no' b) }

/-- Types of ints, strings, bools, structs and slices alone, laid one behind the other. -/
def layB (P : Program) (S : List TypeId) (tot : Nat) : Nat → List Field → Bool
  | off, [] => off == tot
  | off, f :: r => f.offset == off && S.contains f.type && layB P S tot (off + P.cellsOf f.type) r
def plainT (P : Program) (S : List TypeId) : Bool := S.all fun t => match P.underlying t with
  | some (.int _) => P.cellsOf t == 1
  | some .string => P.cellsOf t == 1
  | some .bool => P.cellsOf t == 1
  | some (.slice e) => S.contains e && P.cellsOf t == 1 && decide (0 < P.cellsOf e)
  | some (.struct fs) => layB P S (P.cellsOf t) 0 fs.toList
  | _ => false

section
variable {H : Type}
/-- Data in a heap, by their types. -/
inductive DatR (P : Program) (h : AHeap) : TypeId → DataW H → List AV → Prop
  | int {t : TypeId} {k : IntKind} {n : Int} : P.underlying t = some (.int k) → (Lit.int k n).wf = true → DatR P h t (.lit (.int k n)) [.int k n]
  | str {t : TypeId} {s : List UInt8} : P.underlying t = some .string → s.length ≤ maxLen → DatR P h t (.lit (.string s)) [.str s]
  | bool {t : TypeId} {b : Bool} : P.underlying t = some .bool → DatR P h t (.lit (.bool b)) [.bool b]
  | nil {t e : TypeId} : P.underlying t = some (.slice e) → DatR P h t .nil [.nilSlice]
  | emp {t e : TypeId} {b cap : Nat} {rest : List (DataW H)} : P.underlying t = some (.slice e) → DatR P h t (.slice [] rest) [.slice b 0 0 cap true]
  | slice {t e : TypeId} {b cap : Nat} {ds rest : List (DataW H)} {cs : List AV} : P.underlying t = some (.slice e) → ds ≠ [] → (ds.length ≤ maxLen ∧ ds.length ≤ cap) → b < h.n → h.get b = some ⟨0, .cells .ro (P.cellsOf e) cs⟩ →
      cs.length = ds.length * P.cellsOf e → (∀ (i : Nat) (d : DataW H), ds[i]? = some d → DatR P h e d ((cs.drop (i * P.cellsOf e)).take (P.cellsOf e))) → DatR P h t (.slice ds rest) [.slice b 0 ds.length cap true]
  | agg {t : TypeId} {fs : Array Field} {ds : List (DataW H)} {cs : List AV} : P.underlying t = some (.struct fs) → cs.length = P.cellsOf t → ds.length = fs.size →
      (∀ (i : Nat) (f : Field) (d : DataW H), fs[i]? = some f → ds[i]? = some d → DatR P h f.type d ((cs.drop f.offset).take (P.cellsOf f.type))) → DatR P h t (.agg ds) cs
theorem DatR.keep {P : Program} {h h' : AHeap} (hn : h.n ≤ h'.n) (f : ∀ b, b < h.n → h'.get b = h.get b) {t : TypeId} {d : DataW H} {cs : List AV} (r : DatR P h t d cs) : DatR P h' t d cs := by
  induction r with
  | int h1 h2 => exact .int h1 h2
  | str h1 h2 => exact .str h1 h2
  | bool h1 => exact .bool h1
  | nil h1 => exact .nil h1
  | emp h1 => exact .emp h1
  | slice h1 h2 h3 h4 h5 h6 _ ih => exact .slice h1 h2 h3 (Nat.lt_of_lt_of_le h4 hn) ((f _ h4).trans h5) h6 ih
  | agg h1 h2 h3 _ ih => exact .agg h1 h2 h3 ih

variable {enc : TypeId × Value → H} {P : Program} {W : World} {base : Nat} {spare : Nat → Bool} {held : Bool}
/-- What is to be shown of a reading. -/
def Opens (P : Program) (W : World) (z : Nat) (t : TypeId) (cs : List Value) (d : DataW H) : Prop :=
  ∀ (ι : Mp) (h : AHeap), Rel ι h W → NoOwn h → infoOf h.get z = .dead → ∃ (ι' : Mp) (h' : AHeap) (vs : List AV), Ext ι h ι' h' ∧ Rel ι' h' W ∧ NoOwn h' ∧ VRL ι' (infoOf h'.get) (wsz W) vs cs ∧ DatR P h' t d vs

theorem opens_fields {z : Nat} {S : List TypeId} {tot : Nat} {cs : List Value} (hcs : cs.length = tot) : ∀ (fs : List Field) (ds : List (DataW H)) (off : Nat), layB P S tot off fs = true → ds.length = fs.length →
    (∀ (i : Nat) (f : Field) (d : DataW H), fs[i]? = some f → ds[i]? = some d → Opens P W z f.type ((cs.drop f.offset).take (P.cellsOf f.type)) d) →
    ∀ (ι : Mp) (h : AHeap), Rel ι h W → NoOwn h → infoOf h.get z = .dead → ∃ (ι' : Mp) (h' : AHeap) (vs : List AV), Ext ι h ι' h' ∧ Rel ι' h' W ∧ NoOwn h' ∧ VRL ι' (infoOf h'.get) (wsz W) vs (cs.drop off) ∧ off ≤ tot ∧
      ∀ (i : Nat) (f : Field) (d : DataW H), fs[i]? = some f → ds[i]? = some d → off ≤ f.offset ∧ DatR P h' f.type d ((vs.drop (f.offset - off)).take (P.cellsOf f.type))
  | [], ds, off, hl, hd, _, ι, h, r, no, hz => by
    simp only [layB, beq_iff_eq] at hl
    refine ⟨ι, h, [], Ext.refl _ _, r, no, ?_, by omega, fun i f d hf => by simp at hf⟩
    rw [List.drop_of_length_le (by omega)]
    simp [VRL]
  | f :: fs, [], off, hl, hd, _, ι, h, r, no, hz => by simp at hd
  | f :: fs, d :: ds, off, hl, hd, hO, ι, h, r, no, hz => by
    simp only [layB, Bool.and_eq_true, beq_iff_eq] at hl
    obtain ⟨⟨h1, h2⟩, h3⟩ := hl
    obtain ⟨ι1, h1', vs1, e1, r1, no1, v1, d1⟩ := hO 0 f d rfl rfl ι h r no hz
    have hz1 : infoOf h1'.get z = .dead := by rw [e1.info (info_lt r hz)]; exact hz
    obtain ⟨ι2, h2', vs2, e2, r2, no2, v2, hle, d2⟩ := opens_fields hcs fs ds (off + P.cellsOf f.type) h3 (by simpa using hd) (fun i f' d' hf hd' => hO (i + 1) f' d' (by simpa using hf) (by simpa using hd')) ι1 h1' r1 no1 hz1
    have hlen : vs1.length = P.cellsOf f.type := by
      rw [v1.length, List.length_take, List.length_drop]; omega
    refine ⟨ι2, h2', vs1 ++ vs2, e1.trans e2, r2, no2, ?_, by omega, ?_⟩
    · have := (VRL.mono (e2.grow r1 _) _ _ v1).append v2
      rw [h1] at this
      have hs : (cs.drop off).take (P.cellsOf f.type) ++ cs.drop (off + P.cellsOf f.type) = cs.drop off := by
        rw [← List.drop_drop, List.take_append_drop]
      rw [hs] at this
      exact this
    · intro i f' d' hf hd'
      cases i with
      | zero =>
        simp only [List.getElem?_cons_zero, Option.some.injEq] at hf hd'
        subst hf hd'
        refine ⟨by omega, ?_⟩
        rw [h1, Nat.sub_self, List.drop_zero, List.take_append_of_le_length (by omega), List.take_of_length_le (by omega)]
        exact d1.keep e2.n e2.old
      | succ i =>
        simp only [List.getElem?_cons_succ] at hf hd'
        obtain ⟨g1, g2⟩ := d2 i f' d' hf hd'
        refine ⟨by omega, ?_⟩
        have : f'.offset - off = vs1.length + (f'.offset - (off + P.cellsOf f.type)) := by omega
        rw [this, List.drop_append, List.drop_of_length_le (by omega), List.nil_append, Nat.add_sub_cancel_left]
        exact g2
theorem opens_elems {z : Nat} {e : TypeId} {sz : Nat} {f : Nat → Option Value} (hsz : P.cellsOf e = sz) : ∀ (ds : List (DataW H)) (k : Nat),
    (∀ (i : Nat) (d : DataW H), ds[i]? = some d → ∃ cs : List Value, cs.length = sz ∧ (∀ j, j < sz → cs[j]? = f ((k + i) * sz + j)) ∧ Opens P W z e cs d) →
    ∀ (ι : Mp) (h : AHeap), Rel ι h W → NoOwn h → infoOf h.get z = .dead → ∃ (ι' : Mp) (h' : AHeap) (vs : List AV), Ext ι h ι' h' ∧ Rel ι' h' W ∧ NoOwn h' ∧ vs.length = ds.length * sz ∧
      (∀ (j : Nat) (x : AV), vs[j]? = some x → ∃ v, f (k * sz + j) = some v ∧ VR ι' (infoOf h'.get) (wsz W) x v) ∧
      ∀ (i : Nat) (d : DataW H), ds[i]? = some d → DatR P h' e d ((vs.drop (i * sz)).take sz)
  | [], k, _, ι, h, r, no, hz => ⟨ι, h, [], Ext.refl _ _, r, no, by simp, fun j x hx => by simp at hx, fun i d hd => by simp at hd⟩
  | d :: ds, k, hO, ι, h, r, no, hz => by
    obtain ⟨cs, hcl, hcf, ho⟩ := hO 0 d rfl
    obtain ⟨ι1, h1, vs1, e1, r1, no1, v1, d1⟩ := ho ι h r no hz
    have hz1 : infoOf h1.get z = .dead := by rw [e1.info (info_lt r hz)]; exact hz
    obtain ⟨ι2, h2, vs2, e2, r2, no2, l2, v2, d2⟩ := opens_elems hsz ds (k + 1) (fun i d' hd => by
      obtain ⟨cs', g1, g2, g3⟩ := hO (i + 1) d' (by simpa using hd)
      exact ⟨cs', g1, fun j hj => by rw [g2 j hj, show k + (i + 1) = k + 1 + i by omega], g3⟩) ι1 h1 r1 no1 hz1
    have hlen : vs1.length = sz := v1.length.trans hcl
    refine ⟨ι2, h2, vs1 ++ vs2, e1.trans e2, r2, no2, ?_, ?_, ?_⟩
    · rw [List.length_append, l2, hlen, List.length_cons, Nat.succ_mul]; omega
    · intro j x hx
      by_cases hj : j < sz
      · rw [List.getElem?_append_left (by omega)] at hx
        obtain ⟨v, hv, hr⟩ := v1.get j x hx
        refine ⟨v, ?_, VR.mono (e2.grow r1 _) _ _ hr⟩
        rw [← hv, hcf j hj, Nat.add_zero]
      · rw [List.getElem?_append_right (by omega), hlen] at hx
        obtain ⟨v, hv, hr⟩ := v2 (j - sz) x hx
        refine ⟨v, ?_, hr⟩
        rw [← hv]
        congr 1
        rw [Nat.succ_mul]; omega
    · intro i d' hd
      cases i with
      | zero =>
        simp only [List.getElem?_cons_zero, Option.some.injEq] at hd
        subst hd
        rw [Nat.zero_mul, List.drop_zero, List.take_append_of_le_length (by omega), List.take_of_length_le (by omega)]
        exact d1.keep e2.n e2.old
      | succ i =>
        simp only [List.getElem?_cons_succ] at hd
        have : (i + 1) * sz = vs1.length + i * sz := by rw [Nat.succ_mul]; omega
        rw [this, List.drop_append, List.drop_of_length_le (by omega), List.nil_append, Nat.add_sub_cancel_left]
        exact d2 i d' hd
theorem opens_plain {z : Nat} {S : List TypeId} (hS : plainT P S = true) : ∀ (fuel : Nat) (t : TypeId) (cs : List Value) (x : DataW H × List MemPlace), t ∈ S → DataW.trod enc P W base spare held fuel t cs = some x → Opens P W z t cs x.1 := by
  intro fuel
  induction fuel with
  | zero => intro t cs x _ h; simp [DataW.trod] at h
  | succ n ih =>
    intro t cs x ht hx
    have hp := List.all_eq_true.1 hS t ht
    cases hu : P.underlying t with
    | none => rw [hu] at hp; cases hp
    | some u =>
      rw [hu] at hp
      cases u with
      | int k =>
        obtain ⟨m, rfl, rfl, hw⟩ := DataW.trod_int hu hx
        intro ι h r no hz
        exact ⟨ι, h, [.int k m], Ext.refl _ _, r, no, by simp only [VRL, VR]; exact ⟨_, _, rfl, rfl, rfl⟩, .int hu hw⟩
      | string =>
        obtain ⟨s, rfl, rfl, hw⟩ := DataW.trod_string hu hx
        intro ι h r no hz
        exact ⟨ι, h, [.str s.data.toList], Ext.refl _ _, r, no, by simp only [VRL, VR]; exact ⟨_, _, rfl, rfl, rfl⟩, .str hu (by simpa using hw)⟩
      | bool =>
        intro ι h r no hz
        rw [DataW.trod_step] at hx
        unfold DataW.trodStep at hx
        rw [hu] at hx
        split at hx
        all_goals first | (rename_i h1; cases h1; done) | skip
        all_goals (try (cases hx))
        all_goals simp_all
        exact ⟨ι, h, Ext.refl _ _, r, no, [.bool _], by simp only [VRL, VR]; exact ⟨_, _, rfl, rfl, rfl⟩, .bool hu⟩
      | slice e =>
        simp only [Bool.and_eq_true, beq_iff_eq, decide_eq_true_eq] at hp
        obtain ⟨⟨he, _⟩, hpos⟩ := hp
        have he : e ∈ S := by simpa using he
        rcases DataW.trod_slice hu hx with ⟨rfl, rfl⟩ | ⟨a, len, cap, elems, rest, n', hn', rfl, rfl, hb, hlc, hcm, hel, hgt, _, _⟩
        · intro ι h r no hz
          exact ⟨ι, h, [.nilSlice], Ext.refl _ _, r, no, by simp only [VRL, VR]; exact ⟨_, _, rfl, rfl, rfl⟩, .nil hu⟩
        · cases hn'
          intro ι h r no hz
          by_cases h0 : len = 0
          · have : elems = [] := List.length_eq_zero_iff.1 (by omega)
            subst this
            subst h0
            refine ⟨ι, h, [.slice z 0 0 cap true], Ext.refl _ _, r, no, ?_, .emp hu⟩
            simp only [VRL, VR]
            exact ⟨_, _, rfl, ⟨_, _, rfl, hlc, Nat.le_refl _, .inl hz⟩, rfl⟩
          · have each : ∀ i d, elems[i]? = some d → ∃ cs', W.cells? base (a.add (i * P.cellsOf e)) (P.cellsOf e) = some cs' ∧ DataW.trod enc P W base spare held n e cs' = some d := by
              intro i d hd
              have hi : i < len := by rw [← hel]; exact (List.getElem?_eq_some_iff.1 hd).1
              have := hgt i hi
              rw [hd] at this
              exact Option.bind_eq_some_iff.1 this
            have hadd : ∀ i j, (a.add i).add j = a.add (i + j) := by
              intro i j
              unfold Addr.add
              by_cases hi : i = 0
              · subst hi; simp
              · by_cases hj : j = 0
                · subst hj; simp [hi]
                · simp [hi, hj, Nat.add_assoc]
            obtain ⟨ι1, h1, vs, e1, r1, no1, l1, v1, d1⟩ := opens_elems (P := P) (W := W) (z := z) (e := e) (f := fun j => W.cell? (a.add j)) rfl (elems.map (·.1)) 0 (fun i d hd => by
              rw [List.getElem?_map, Option.map_eq_some_iff] at hd
              obtain ⟨y, hy, rfl⟩ := hd
              obtain ⟨cs', g1, g2⟩ := each i y hy
              obtain ⟨_, g3, g4⟩ := World.cells?_some g1
              refine ⟨cs', g3, fun j hj => ?_, ih e cs' y he g2⟩
              rw [← g4 j hj, hadd, Nat.zero_add]) ι h r no hz
            rw [List.length_map, hel] at l1
            have hvpos : 0 < vs.length := by rw [l1]; exact Nat.mul_pos (by omega) hpos
            obtain ⟨v0, hv0, _⟩ := v1 0 _ (List.getElem?_eq_getElem hvpos)
            obtain ⟨ab, ao, sp⟩ := a
            have hsp : sp = none := by
              have h0 := hv0
              simp only [Nat.zero_mul, Nat.zero_add] at h0
              simpa [Addr.add] using World.cell?_spot h0
            subst hsp
            have hcell : ∀ j, W.cell? (Addr.add ⟨ab, ao, none⟩ j) = W.cell? ⟨ab, ao + j, none⟩ := fun j => by rw [Addr.add_lit]
            obtain ⟨cw, T, lo, hi', hW⟩ : ∃ cw T lo hi', W.heap[ab]? = some (.cells cw T (lo, hi')) := by
              try simp only at hv0
              rw [hcell] at hv0
              unfold World.cell? at hv0
              simp only at hv0
              cases hb : W.heap[ab]? with
              | none => rw [hb] at hv0; cases hv0
              | some o =>
                cases o with
                | cells cs T q => obtain ⟨lo, hi⟩ := q; exact ⟨_, _, _, _, rfl⟩
                | _ => rw [hb] at hv0; cases hv0
            have hor : ORel ι1 (infoOf h1.get) (wsz W) W ab ao (.cells .ro (P.cellsOf e) vs) := by
              refine ⟨cw, T, lo, hi', hW, fun i x hx => ?_, fun h => absurd rfl h, fun h => by cases h⟩
              obtain ⟨v, hv, hr⟩ := v1 i x hx
              refine ⟨v, ?_, hr⟩
              simp only [Nat.zero_mul, Nat.zero_add] at hv
              rw [hcell] at hv
              unfold World.cell? at hv
              simp only [hW] at hv
              simpa using hv
            have hab : ab < W.heap.size := (Array.getElem?_eq_some_iff.1 hW).1
            obtain ⟨ι2, e2, r2, no2, hio⟩ := lay_ro r1 no1 hab hor
            refine ⟨ι2, _, [.slice h1.n 0 len cap true], e1.trans e2, r2, no2, ?_, ?_⟩
            · simp only [VRL, VR]
              exact ⟨_, _, rfl, ⟨_, _, rfl, hlc, Nat.le_refl _, .inr ⟨ab, ao, hio, fun _ => ⟨rfl, rfl⟩, fun h => by cases h⟩⟩, rfl⟩
            · have hml : (elems.map (·.1)).length = len := by rw [List.length_map, hel]
              have := DatR.slice (P := P) (h := h1.alloc (.cells .ro (P.cellsOf e) vs)) (b := h1.n) (cap := cap) (rest := rest.map (·.1)) hu (ds := elems.map (·.1)) (cs := vs) (by intro q; rw [q] at hml; simp at hml; omega) ⟨by omega, by omega⟩ (by simp) (by rw [AHeap.get_alloc, if_pos rfl]) (by rw [hml]; exact l1) (fun i d hd => (d1 i d hd).keep e2.n e2.old)
              rw [hml] at this
              exact this
      | struct fs =>
        obtain ⟨xs, n', hn', rfl, hcl, hxl, hgt⟩ := DataW.trod_struct hu hx
        cases hn'
        intro ι h r no hz
        have hmem : ∀ (l : List Field) (off : Nat), layB P S (P.cellsOf t) off l = true → ∀ f ∈ l, f.type ∈ S := by
          intro l
          induction l with
          | nil => intro off _ f hf; cases hf
          | cons g l ihl =>
            intro off hl f hf
            simp only [layB, Bool.and_eq_true, beq_iff_eq] at hl
            rcases List.mem_cons.1 hf with rfl | hf
            · simpa using hl.1.2
            · exact ihl _ hl.2 f hf
        obtain ⟨ι1, h1, vs, e1, r1, no1, v1, _, d1⟩ := opens_fields (P := P) (W := W) (z := z) (S := S) hcl fs.toList (xs.map (·.1)) 0 hp (by simpa using hxl) (fun i f d hf hd => by
          rw [List.getElem?_map, Option.map_eq_some_iff] at hd
          obtain ⟨y, hy, rfl⟩ := hd
          have hf' : fs[i]? = some f := by simpa using hf
          exact ih f.type _ y (hmem _ _ hp f (List.mem_of_getElem? hf)) ((hgt i f hf').trans hy)) ι h r no hz
        rw [List.drop_zero] at v1
        refine ⟨ι1, h1, vs, e1, r1, no1, v1, .agg hu (v1.length.trans hcl) (by simpa using hxl) fun i f d hf hd => ?_⟩
        have := (d1 i f d (by simpa using hf) hd).2
        rwa [Nat.sub_zero] at this
      | _ => cases hp
end
end Go.Ev
/- Arguments of structs and slices: what a law's walk gives; sizes. -/
namespace Go.Ev
open Go Go.RowKit

theorem run1 {P : Program} {F : FT} (hF : FOk P F) (hp : PrimsH F) (hmix : P.follows .mixedOrders = true) {f : FuncId} {fn : Func} (hfn : P.funcs[f]? = some fn) (hb : fn.body.isSome = true) (hn : (fn.name == "runtime.NumGoroutine") = false)
    {ι : Mp} {h : AHeap} {W : World} (hr : Rel ι h W) (hg : Glob P ι) (no : NoOwn h) {args : List AV} {args' : Array Value} (hv : VRL ι (infoOf h.get) (wsz W) args args'.toList) (he : WF F f args h (fun r _ => r = .ret (.bool true))) :
    Calls P f args' W fun e W' => e = .returned (.bool true) ∧ Below W.heap.size W W' := by
  obtain ⟨r, h', ⟨k0, hk⟩, rfl⟩ := he.ev
  have hc := calls_sound hF hp hmix k0 f args _ _ _ (hk k0 (Nat.le_refl _)) _ W args' hg hr hv
  unfold CallGives at hc
  obtain ⟨body, hbody⟩ := Option.isSome_iff_exists.1 hb
  have hne : fn.name ≠ "runtime.NumGoroutine" := by simpa using hn
  have e : (callFunc f args').run P W = .ok (.enter f args') W := by simp [callFunc, hfn, hbody, hne, Sem.run]
  rw [e] at hc
  refine hc.mono ?_
  rintro e W' (⟨v, rfl, x, hx, ι', st, _, hvv⟩ | ⟨v, rfl, x, hx, _⟩)
  · cases hx
    simp only [VR] at hvv
    subst hvv
    exact ⟨rfl, st.oth.1, st.oth.2.2, st.oth.2.1, st.wn_le, fun k hk => st.keep k hk fun b p _ ow => no b ow⟩
  · cases hx
theorem Ext.glob {P : Program} {ι ι' : Mp} {h h' : AHeap} (e : Ext ι h ι' h') (g : Glob P ι) : Glob P ι' := fun k hk => e.ext k _ (g k hk)
theorem noOwn0 {T NG K : Nat} {txt : Nat → List UInt8} {xs : Nat → AObj} : NoOwn (heap0 T NG K txt 0 xs) := by
  rintro b ⟨f, s, h⟩
  unfold infoOf at h
  rw [heap0_get] at h
  split at h
  · rename_i x hx
    split at hx
    · split at hx
      · cases hx; cases h
      · split at hx
        · cases hx; cases h
        · split at hx
          · cases hx; cases h
          · omega
    · cases hx
  · cases h

section
variable {H : Type} {P : Program}
theorem weightsAll_get {e : TypeId} : ∀ {ds : List (DataW H)} {i : Nat} {d : DataW H}, ds[i]? = some d → (DataW.weightsAll P e ds).all (· ≤ reachBytes) = true → (d.weights P e).all (· ≤ reachBytes) = true
  | [], i, d, h, _ => by simp at h
  | x :: ds, 0, d, h, hw => by
    simp only [List.getElem?_cons_zero, Option.some.injEq] at h
    subst h
    rw [DataW.weightsAll, List.all_append, Bool.and_eq_true] at hw
    exact hw.1
  | x :: ds, i + 1, d, h, hw => by
    rw [DataW.weightsAll, List.all_append, Bool.and_eq_true] at hw
    exact weightsAll_get (by simpa using h) hw.2
theorem weightsEach_get : ∀ {ts : List TypeId} {ds : List (DataW H)} {i : Nat} {t : TypeId} {d : DataW H}, ts[i]? = some t → ds[i]? = some d → (DataW.weightsEach P ts ds).all (· ≤ reachBytes) = true → (d.weights P t).all (· ≤ reachBytes) = true
  | [], _, i, t, d, h, _, _ => by simp at h
  | _ :: _, [], i, t, d, _, h, _ => by simp at h
  | y :: ts, x :: ds, 0, t, d, h1, h, hw => by
    simp only [List.getElem?_cons_zero, Option.some.injEq] at h h1
    subst h h1
    rw [DataW.weightsEach, List.all_append, Bool.and_eq_true] at hw
    exact hw.1
  | y :: ts, x :: ds, i + 1, t, d, h1, h, hw => by
    rw [DataW.weightsEach, List.all_append, Bool.and_eq_true] at hw
    exact weightsEach_get (by simpa using h1) (by simpa using h) hw.2

variable {h : AHeap}
theorem DatR.int_inv {t : TypeId} {k : IntKind} (ht : P.underlying t = some (.int k)) {d : DataW H} {cs : List AV} (r : DatR P h t d cs) : ∃ n, cs = [.int k n] ∧ (Lit.int k n).wf = true := by
  cases r with
  | int h1 h2 => rw [ht] at h1; cases h1; exact ⟨_, rfl, h2⟩
  | str h1 _ => rw [ht] at h1; cases h1
  | bool h1 => rw [ht] at h1; cases h1
  | nil h1 => rw [ht] at h1; cases h1
  | emp h1 => rw [ht] at h1; cases h1
  | slice h1 _ _ _ _ _ _ => rw [ht] at h1; cases h1
  | agg h1 _ _ _ => rw [ht] at h1; cases h1
end
end Go.Ev
