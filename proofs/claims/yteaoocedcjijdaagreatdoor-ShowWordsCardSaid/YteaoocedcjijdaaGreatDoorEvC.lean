/- What the evaluator answers, whatever its fuel, if there is enough of it. -/
import Derived.Test.YteaoocedcjijdaaGreatDoorEvB
import Derived.Attr
set_option linter.all false
set_option linter.unusedVariables false
set_option linter.unusedSimpArgs false
namespace Go.Ev
open Go

abbrev FT := Nat → Option MFun

def Ev (F : FT) (f : FuncId) (args : List AV) (h : AHeap) (r : CRes) (h' : AHeap) : Prop :=
  ∃ k0, ∀ k, k0 ≤ k → evCall F k f args h = some (r, h')
def EvO (F : FT) (op : MOp) (a : AAct) (h : AHeap) (res : Res) : Prop :=
  ∃ k0, ∀ k, k0 ≤ k → evOp (evCall F k) a op h = some res
def EvOs (F : FT) (l : List MOper) (a : AAct) (h : AHeap) (e : AExit) (a' : AAct) (h' : AHeap) : Prop :=
  ∃ k0, ∀ k, k0 ≤ k → evOps (evCall F k) l a h = some (e, a', h')
def EvD (F : FT) (all l : List (Nat × MOper)) (a : AAct) (h : AHeap) (rs : List Rec) (pan : Option (Nat × AV)) (e : AExit) (a' : AAct) (h' : AHeap) : Prop :=
  ∃ k0, ∀ k, k0 ≤ k → evD (evCall F k) all l a h rs pan = some (e, a', h')
def EvC (F : FT) (c : MCode) (a : AAct) (h : AHeap) (e : AExit) (a' : AAct) (h' : AHeap) : Prop :=
  ∃ k0, ∀ k, k0 ≤ k → evCode (evCall F k) k c a h = some (e, a', h')
/-- A loop, its rounds counted apart. -/
def EvL (F : FT) (c : MCode) (a : AAct) (h : AHeap) (e : AExit) (a' : AAct) (h' : AHeap) : Prop :=
  ∃ k0 n0, ∀ k, k0 ≤ k → ∀ n, n0 ≤ n → iter n (fun a h => evCode (evCall F k) k c a h) a h = some (e, a', h')

section
variable {F : FT} {a a1 a' : AAct} {h h1 h' : AHeap} {e e1 : AExit}

theorem EvO.of {op : MOp} {res : Res} (he : ∀ call, evOp call a op h = some res) : EvO F op a h res := ⟨0, fun _ _ => he _⟩
theorem EvO.call {f : FuncId} {args : List Opd} {x : AV} (he : Ev F f (args.map a.eval) h (.ret x) h1) : EvO F (.call f args) a h (.v x h1 .big) := by
  obtain ⟨k0, hk⟩ := he
  exact ⟨k0, fun k h => by simp only [evOp, hk k h]⟩
theorem EvO.callPan {f : FuncId} {args : List Opd} {x : AV} (he : Ev F f (args.map a.eval) h (.pan x) h1) : EvO F (.call f args) a h (.pan x h1) := by
  obtain ⟨k0, hk⟩ := he
  exact ⟨k0, fun k h => by simp only [evOp, hk k h]⟩
theorem EvO.callv {f : Opd} {args : List Opd} {g : FuncId} {fs cs : List AV} {x : AV} (hf : a.eval f = .func (.func g) fs cs) (he : Ev F g (fs ++ (args.map a.eval ++ cs)) h (.ret x) h1) : EvO F (.callv f args) a h (.v x h1 .big) := by
  obtain ⟨k0, hk⟩ := he
  exact ⟨k0, fun k h => by simp only [evOp, hf, hk k h]⟩
theorem EvO.callvPan {f : Opd} {args : List Opd} {g : FuncId} {fs cs : List AV} {x : AV} (hf : a.eval f = .func (.func g) fs cs) (he : Ev F g (fs ++ (args.map a.eval ++ cs)) h (.pan x) h1) : EvO F (.callv f args) a h (.pan x h1) := by
  obtain ⟨k0, hk⟩ := he
  exact ⟨k0, fun k h => by simp only [evOp, hf, hk k h]⟩

theorem EvOs.nil : EvOs F [] a h .norm a h := ⟨0, fun _ _ => rfl⟩
theorem EvOs.val {o : MOper} {r : List MOper} {x : AV} {k : Cls} (hw : wantedA a o.guard = true) (ho : EvO F o.op a h (.v x h1 k)) (hr : EvOs F r (a.put o.dst x) h1 e a' h') : EvOs F (o :: r) a h e a' h' := by
  obtain ⟨k0, g0⟩ := ho
  obtain ⟨k1, g1⟩ := hr
  exact ⟨max k0 k1, fun k hk => by simp only [evOps, hw, cond_true, g0 k (by omega), g1 k (by omega)]⟩
theorem EvOs.pan {o : MOper} {r : List MOper} {x : AV} (hw : wantedA a o.guard = true) (ho : EvO F o.op a h (.pan x h1)) : EvOs F (o :: r) a h (.pan x) a h1 := by
  obtain ⟨k0, g0⟩ := ho
  exact ⟨k0, fun k hk => by simp only [evOps, hw, cond_true, g0 k hk]⟩
theorem EvOs.df {o : MOper} {r : List MOper} {f : FuncId} {args : List AV} (hw : wantedA a o.guard = true) (ho : EvO F o.op a h (.df f args)) (hr : EvOs F r (AAct.put ⟨a.tm, (f, args) :: a.df⟩ o.dst undefA) h e a' h') : EvOs F (o :: r) a h e a' h' := by
  obtain ⟨k0, g0⟩ := ho
  obtain ⟨k1, g1⟩ := hr
  exact ⟨max k0 k1, fun k hk => by simp only [evOps, hw, cond_true, g0 k (by omega), g1 k (by omega)]⟩
theorem EvOs.no {o : MOper} {r : List MOper} (hw : wantedA a o.guard = false) (hr : EvOs F r (a.put o.dst undefA) h e a' h') : EvOs F (o :: r) a h e a' h' := by
  obtain ⟨k1, g1⟩ := hr
  exact ⟨k1, fun k hk => by simp only [evOps, hw, cond_false, g1 k hk]⟩

theorem EvD.nil {all : List (Nat × MOper)} {rs : List Rec} : EvD F all [] a h rs none .norm a h := ⟨0, fun _ _ => rfl⟩
theorem EvD.nilPan {all : List (Nat × MOper)} {rs : List Rec} {j : Nat} {v : AV} : EvD F all [] a h rs (some (j, v)) (.pan v) ⟨dels all a.tm, a.df⟩ h := ⟨0, fun _ _ => rfl⟩
theorem EvD.val {all : List (Nat × MOper)} {i : Nat} {o : MOper} {r : List (Nat × MOper)} {rs : List Rec} {pan : Option (Nat × AV)} {x : AV} {k : Cls} (hs : skipsD o.bef pan = false) (hw : wantedA a o.guard = true) (ho : EvO F o.op a h (.v x h1 k)) (hc : okWith o.bef k h h1 rs = true) (hr : EvD F all r (a.put o.dst x) h1 (⟨i, k, h, h1⟩ :: rs) pan e a' h') : EvD F all ((i, o) :: r) a h rs pan e a' h' := by
  obtain ⟨k0, g0⟩ := ho
  obtain ⟨k1, g1⟩ := hr
  exact ⟨max k0 k1, fun k hk => by simp only [evD, hs, hw, cond_true, cond_false, g0 k (by omega), hc, g1 k (by omega)]⟩
theorem EvD.no {all : List (Nat × MOper)} {i : Nat} {o : MOper} {r : List (Nat × MOper)} {rs : List Rec} {pan : Option (Nat × AV)} (hs : skipsD o.bef pan = false) (hw : wantedA a o.guard = false) (hr : EvD F all r (a.put o.dst undefA) h rs pan e a' h') : EvD F all ((i, o) :: r) a h rs pan e a' h' := by
  obtain ⟨k1, g1⟩ := hr
  exact ⟨k1, fun k hk => by simp only [evD, hs, hw, cond_false, g1 k hk]⟩
theorem EvD.skip {all : List (Nat × MOper)} {i : Nat} {o : MOper} {r : List (Nat × MOper)} {rs : List Rec} {pan : Option (Nat × AV)} (hs : skipsD o.bef pan = true) (hr : EvD F all r a h rs pan e a' h') : EvD F all ((i, o) :: r) a h rs pan e a' h' := by
  obtain ⟨k1, g1⟩ := hr
  exact ⟨k1, fun k hk => by simp only [evD, hs, cond_true, g1 k hk]⟩
theorem EvD.pan {all : List (Nat × MOper)} {i : Nat} {o : MOper} {r : List (Nat × MOper)} {rs : List Rec} {x : AV} (hw : wantedA a o.guard = true) (ho : EvO F o.op a h (.pan x h1)) (hc : okWith o.bef .big h h1 rs = true) (hr : EvD F all r a h1 (⟨i, .big, h, h1⟩ :: rs) (some (i, x)) e a' h') : EvD F all ((i, o) :: r) a h rs none e a' h' := by
  obtain ⟨k0, g0⟩ := ho
  obtain ⟨k1, g1⟩ := hr
  exact ⟨max k0 k1, fun k hk => by simp only [evD, skipsD, hw, cond_true, cond_false, g0 k (by omega), hc, g1 k (by omega)]⟩

theorem EvC.skip : EvC F .skip a h .norm a h := ⟨0, fun _ _ => rfl⟩
theorem EvC.exit {id : Nat} : EvC F (.exit id) a h (.exit id) a h := ⟨0, fun _ _ => rfl⟩
theorem EvC.ret : EvC F .ret a h .ret a h := ⟨0, fun _ _ => rfl⟩
theorem EvC.reg {l : List MOper} (hl : EvOs F l a h e a' h') : EvC F (.reg l) a h e a' h' := by
  obtain ⟨k0, g⟩ := hl
  exact ⟨k0, fun k hk => by simp only [evCode, g k hk]⟩
theorem EvC.regD {l : List (Nat × MOper)} (hl : EvD F l l a h [] none e a' h') : EvC F (.regD l) a h e a' h' := by
  obtain ⟨k0, g⟩ := hl
  exact ⟨k0, fun k hk => by simp only [evCode, g k hk]⟩
theorem EvC.seq {x y : MCode} (hx : EvC F x a h .norm a1 h1) (hy : EvC F y a1 h1 e a' h') : EvC F (.seq x y) a h e a' h' := by
  obtain ⟨k0, g0⟩ := hx
  obtain ⟨k1, g1⟩ := hy
  exact ⟨max k0 k1, fun k hk => by simp only [evCode, g0 k (by omega), g1 k (by omega)]⟩
theorem EvC.seqOut {x y : MCode} (hx : EvC F x a h e a' h') (hne : e ≠ .norm) : EvC F (.seq x y) a h e a' h' := by
  obtain ⟨k0, g0⟩ := hx
  refine ⟨k0, fun k hk => ?_⟩
  simp only [evCode, g0 k hk]
  cases e <;> first | rfl | exact absurd rfl hne
theorem EvC.cond {c : Opd} {x y : MCode} {b : Bool} (hc : a.eval c = .bool b) (hx : EvC F (bif b then x else y) a h e a' h') : EvC F (.cond c x y) a h e a' h' := by
  obtain ⟨k0, g0⟩ := hx
  refine ⟨k0, fun k hk => ?_⟩
  have := g0 k hk
  simp only [evCode, hc]
  cases b <;> exact this
theorem EvC.block {id : Nat} {x : MCode} (hx : EvC F x a h (.exit id) a' h') : EvC F (.block id x) a h .norm a' h' := by
  obtain ⟨k0, g0⟩ := hx
  exact ⟨k0, fun k hk => by simp only [evCode, g0 k hk, Nat.beq_refl, cond_true]⟩
theorem EvC.blockOut {id : Nat} {x : MCode} (hx : EvC F x a h e a' h') (hne : e ≠ .exit id) : EvC F (.block id x) a h e a' h' := by
  obtain ⟨k0, g0⟩ := hx
  refine ⟨k0, fun k hk => ?_⟩
  simp only [evCode, g0 k hk]
  cases e with
  | exit i =>
    have : i.beq id = false := beqF fun q => hne (by rw [q])
    simp only [this, cond_false]
  | _ => rfl
theorem EvC.loop {x : MCode} (hx : EvL F x a h e a' h') : EvC F (.loop x) a h e a' h' := by
  obtain ⟨k0, n0, g⟩ := hx
  exact ⟨max k0 n0, fun k hk => by simp only [evCode]; exact g k (by omega) k (by omega)⟩
theorem EvL.round {x : MCode} (hx : EvC F x a h .norm a1 h1) (hr : EvL F x a1 h1 e a' h') : EvL F x a h e a' h' := by
  obtain ⟨k0, g0⟩ := hx
  obtain ⟨k1, n1, g1⟩ := hr
  refine ⟨max k0 k1, n1 + 1, fun k hk n hn => ?_⟩
  obtain ⟨m, rfl⟩ : ∃ m, n = m + 1 := ⟨n - 1, by omega⟩
  simp only [iter, g0 k (by omega)]
  exact g1 k (by omega) m (by omega)
theorem EvL.out {x : MCode} (hx : EvC F x a h e a' h') (hne : e ≠ .norm) : EvL F x a h e a' h' := by
  obtain ⟨k0, g0⟩ := hx
  refine ⟨k0, 1, fun k hk n hn => ?_⟩
  obtain ⟨m, rfl⟩ : ∃ m, n = m + 1 := ⟨n - 1, by omega⟩
  simp only [iter, g0 k hk]
  cases e <;> first | rfl | exact absurd rfl hne

/-- A function that defers nothing. -/
theorem Ev.code {f : FuncId} {args : List AV} {nt : Nat} {body : MCode} {res : List RV} {vs : List AV} (hf : F f = some (.code nt body res)) (hn : args.length ≤ nt) (hb : EvC F body ⟨initTm args 0 .nil, []⟩ h e a' h') (he : e = .ret ∨ e = .norm) (hd : a'.df = []) (hr : resA a' h' res = some vs) : Ev F f args h (.ret (one vs)) h' := by
  obtain ⟨k0, g⟩ := hb
  refine ⟨k0 + 1, fun k hk => ?_⟩
  obtain ⟨m, rfl⟩ : ∃ m, k = m + 1 := ⟨k - 1, by omega⟩
  have hle : args.length.ble nt = true := Nat.ble_eq_true_of_le hn
  simp only [evCall, hf, hle, Bool.not_true, cond_false, g m (by omega)]
  rcases he with rfl | rfl <;> simp only [hd, leave, hr]
theorem Ev.prim {f : FuncId} {args : List AV} {p : List AV → AHeap → Option (CRes × AHeap)} {r : CRes} (hf : F f = some (.prim p)) (hp : p args h = some (r, h')) : Ev F f args h r h' :=
  ⟨1, fun k hk => by
    obtain ⟨m, rfl⟩ : ∃ m, k = m + 1 := ⟨k - 1, by omega⟩
    simp only [evCall, hf, hp]⟩

end
end Go.Ev
/- Weakest preconditions over the evaluator, as data: what is to be shown of a code so that it ends as one wishes. -/
namespace Go.Ev
open Go

abbrev Post := AExit → AAct → AHeap → Prop
abbrev QR := CRes → AHeap → Prop

def WF (F : FT) (f : FuncId) (args : List AV) (h : AHeap) (Q : QR) : Prop := ∃ r h', Ev F f args h r h' ∧ Q r h'
theorem WF.ev {F : FT} {f : FuncId} {args : List AV} {h : AHeap} {Q : QR} (w : WF F f args h Q) : ∃ r h', Ev F f args h r h' ∧ Q r h' := w
theorem WF.imp {F : FT} {f : FuncId} {args : List AV} {h : AHeap} {Q Q' : QR} (w : WF F f args h Q) (hq : ∀ r h', Q r h' → Q' r h') : WF F f args h Q' := by
  obtain ⟨r, h', e, q⟩ := w
  exact ⟨r, h', e, hq _ _ q⟩

def noCall : FuncId → List AV → AHeap → Option (CRes × AHeap) := fun _ _ _ => none
def evO (a : AAct) (op : MOp) (h : AHeap) : Option Res := evOp noCall a op h
def MOp.isCall : MOp → Bool
  | .call _ _ => true
  | .callv _ _ => true
  | _ => false
theorem evOp_noCall {call : FuncId → List AV → AHeap → Option (CRes × AHeap)} {a : AAct} {op : MOp} {h : AHeap} (hc : op.isCall = false) : evOp call a op h = evO a op h := by
  cases op <;> first | rfl | cases hc

/-- A call, by its callee's value. -/
def calleeA (a : AAct) (op : MOp) : Option (FuncId × List AV) :=
  match op with
  | .call f args => some (f, args.map a.eval)
  | .callv f args => match a.eval f with
    | .func (.func f) fs cs => some (f, fs ++ (args.map a.eval ++ cs))
    | _ => none
  | _ => none

def WCall (F : FT) (c : Option (FuncId × List AV)) (h : AHeap) (Q : QR) : Prop :=
  match c with
  | some (f, args) => WF F f args h Q
  | none => False

def callP (f : AAct → AHeap → Post → Prop) (d : Option Nat) (a : AAct) (K : Post) : QR
  | .ret x, h => f (a.put d x) h K
  | .pan x, h => K (.pan x) a h

/-- What goes on behind an operation's answer. -/
def opP (f : AAct → AHeap → Post → Prop) (x : Option Res) (d : Option Nat) (a : AAct) (h : AHeap) (K : Post) : Prop :=
  match x with
  | some (.v x h' _) => f (a.put d x) h' K
  | some (.pan x h') => K (.pan x) a h'
  | some (.df g as) => f (AAct.put ⟨a.tm, (g, as) :: a.df⟩ d undefA) h K
  | none => False

def wantP (F : FT) (f : AAct → AHeap → Post → Prop) (w : Bool) (o : MOper) (a : AAct) (h : AHeap) (K : Post) : Prop :=
  match w with
  | true => match o.op.isCall with
    | true => WCall F (calleeA a o.op) h (callP f o.dst a K)
    | false => opP f (evO a o.op h) o.dst a h K
  | false => f (a.put o.dst undefA) h K

def wpOps (F : FT) : List MOper → AAct → AHeap → Post → Prop
  | [], a, h, K => K .norm a h
  | o :: r, a, h, K => wantP F (wpOps F r) (wantedA a o.guard) o a h K

/-- The same in regions whose order is open. -/
def recPD (f : List Rec → Option (Nat × AV) → AAct → AHeap → Post → Prop) (i bef : Nat) (k : Cls) (a : AAct) (h h' : AHeap) (rs : List Rec) (pan : Option (Nat × AV)) (K : Post) : Prop :=
  match k with
  | .free => f rs pan a h' K
  | k => okWith bef k h h' rs = true ∧ f (⟨i, k, h, h'⟩ :: rs) pan a h' K

def opPD (f : List Rec → Option (Nat × AV) → AAct → AHeap → Post → Prop) (x : Option Res) (i bef : Nat) (d : Option Nat) (a : AAct) (h : AHeap) (rs : List Rec) (pan : Option (Nat × AV)) (K : Post) : Prop :=
  match x with
  | some (.v x h' k) => recPD f i bef k (a.put d x) h h' rs pan K
  | some (.pan x h') => match pan with
    | none => recPD f i bef .big a h h' rs (some (i, x)) K
    | some _ => False
  | _ => False

def callPD (f : List Rec → Option (Nat × AV) → AAct → AHeap → Post → Prop) (i bef : Nat) (d : Option Nat) (a : AAct) (h : AHeap) (rs : List Rec) (pan : Option (Nat × AV)) (K : Post) : QR
  | .ret x, h' => recPD f i bef .big (a.put d x) h h' rs pan K
  | .pan x, h' => match pan with
    | none => recPD f i bef .big a h h' rs (some (i, x)) K
    | some _ => False

def wantPD (F : FT) (f : List Rec → Option (Nat × AV) → AAct → AHeap → Post → Prop) (w : Bool) (i : Nat) (o : MOper) (a : AAct) (h : AHeap) (rs : List Rec) (pan : Option (Nat × AV)) (K : Post) : Prop :=
  match w with
  | true => match o.op.isCall with
    | true => WCall F (calleeA a o.op) h (callPD f i o.bef o.dst a h rs pan K)
    | false => opPD f (evO a o.op h) i o.bef o.dst a h rs pan K
  | false => f rs pan (a.put o.dst undefA) h K

def skipPD (F : FT) (f : List Rec → Option (Nat × AV) → AAct → AHeap → Post → Prop) (s : Bool) (i : Nat) (o : MOper) (a : AAct) (h : AHeap) (rs : List Rec) (pan : Option (Nat × AV)) (K : Post) : Prop :=
  match s with
  | true => f rs pan a h K
  | false => wantPD F f (wantedA a o.guard) i o a h rs pan K

def wpD (F : FT) (all : List (Nat × MOper)) : List (Nat × MOper) → List Rec → Option (Nat × AV) → AAct → AHeap → Post → Prop
  | [], _, none, a, h, K => K .norm a h
  | [], _, some (_, v), a, h, K => K (.pan v) ⟨dels all a.tm, a.df⟩ h
  | (i, o) :: r, rs, pan, a, h, K => skipPD F (wpD F all r) (skipsD o.bef pan) i o a h rs pan K

def sqP (f : AAct → AHeap → Post → Prop) (K : Post) : Post
  | .norm, a, h => f a h K
  | e, a, h => K e a h
def blP (id : Nat) (K : Post) : Post
  | .exit i, a, h => match i.beq id with | true => K .norm a h | false => K (.exit i) a h
  | e, a, h => K e a h
def condP (f g : AAct → AHeap → Post → Prop) (c : AV) (a : AAct) (h : AHeap) (K : Post) : Prop :=
  match c with
  | .bool true => f a h K
  | .bool false => g a h K
  | _ => False

def wpC (F : FT) : MCode → AAct → AHeap → Post → Prop
  | .skip, a, h, K => K .norm a h
  | .reg ops, a, h, K => wpOps F ops a h K
  | .regD ops, a, h, K => wpD F ops ops [] none a h K
  | .seq x y, a, h, K => wpC F x a h (sqP (wpC F y) K)
  | .cond c x y, a, h, K => condP (wpC F x) (wpC F y) (a.eval c) a h K
  | .block id x, a, h, K => wpC F x a h (blP id K)
  | .loop x, a, h, K => ∃ e a' h', EvL F x a h e a' h' ∧ K e a' h'
  | .exit id, a, h, K => K (.exit id) a h
  | .ret, a, h, K => K .ret a h

section
variable {F : FT}

theorem WCall.ev {a : AAct} {op : MOp} {h : AHeap} {Q : QR} (hc : op.isCall = true) (w : WCall F (calleeA a op) h Q) : (∃ x h1, EvO F op a h (.v x h1 .big) ∧ Q (.ret x) h1) ∨ (∃ x h1, EvO F op a h (.pan x h1) ∧ Q (.pan x) h1) := by
  cases op with
  | call f args =>
    obtain ⟨r, h', e, q⟩ := w
    cases r with
    | ret x => exact .inl ⟨x, h', EvO.call e, q⟩
    | pan x => exact .inr ⟨x, h', EvO.callPan e, q⟩
  | callv f args =>
    simp only [calleeA] at w
    split at w
    · rename_i g fs cs hf
      obtain ⟨r, h', e, q⟩ := w
      cases r with
      | ret x => exact .inl ⟨x, h', EvO.callv hf e, q⟩
      | pan x => exact .inr ⟨x, h', EvO.callvPan hf e, q⟩
    · exact w.elim
  | _ => cases hc

theorem wpOps_sound : ∀ (l : List MOper) (a : AAct) (h : AHeap) (K : Post), wpOps F l a h K → ∃ e a' h', EvOs F l a h e a' h' ∧ K e a' h'
  | [], a, h, K, w => ⟨.norm, a, h, EvOs.nil, w⟩
  | o :: r, a, h, K, w => by
    simp only [wpOps] at w
    cases hw : wantedA a o.guard with
    | false =>
      rw [hw] at w
      obtain ⟨e, a', h', g, k⟩ := wpOps_sound r _ _ _ w
      exact ⟨e, a', h', EvOs.no hw g, k⟩
    | true =>
      rw [hw] at w
      simp only [wantP] at w
      cases hc : o.op.isCall with
      | true =>
        rw [hc] at w
        rcases w.ev hc with ⟨x, h1, g, k⟩ | ⟨x, h1, g, k⟩
        · obtain ⟨e, a', h', g', k'⟩ := wpOps_sound r _ _ _ k
          exact ⟨e, a', h', EvOs.val hw g g', k'⟩
        · exact ⟨_, _, _, EvOs.pan hw g, k⟩
      | false =>
        rw [hc] at w
        simp only [opP] at w
        have ev : ∀ res, evO a o.op h = some res → EvO F o.op a h res := fun res he => EvO.of fun call => (evOp_noCall hc).trans he
        split at w
        · rename_i x h1 k1 he
          obtain ⟨e, a', h', g', k'⟩ := wpOps_sound r _ _ _ w
          exact ⟨e, a', h', EvOs.val hw (ev _ he) g', k'⟩
        · rename_i x h1 he
          exact ⟨_, _, _, EvOs.pan hw (ev _ he), w⟩
        · rename_i g as he
          obtain ⟨e, a', h', g', k'⟩ := wpOps_sound r _ _ _ w
          exact ⟨e, a', h', EvOs.df hw (ev _ he) g', k'⟩
        · exact w.elim

/-- Records of what hangs on no heap don't count. -/
inductive Thin : List Rec → List Rec → Prop
  | nil : Thin [] []
  | cons (r : Rec) {rs rs' : List Rec} : Thin rs rs' → Thin (r :: rs) (r :: rs')
  | free {r : Rec} {rs rs' : List Rec} : r.k = .free → Thin rs rs' → Thin rs (r :: rs')

theorem Thin.ok {rs rs' : List Rec} (t : Thin rs rs') {bef : Nat} {k : Cls} {h h' : AHeap} (ho : okWith bef k h h' rs = true) : okWith bef k h h' rs' = true := by
  induction t with
  | nil => exact ho
  | cons r t ih =>
    simp only [okWith, Bool.and_eq_true] at ho ⊢
    exact ⟨ho.1, ih ho.2⟩
  | @free r rs rs' hr t ih =>
    simp only [okWith, Bool.and_eq_true]
    refine ⟨?_, ih ho⟩
    have : compat r k h h' = true := by unfold compat; rw [hr]
    rw [this, Bool.or_true]
theorem okWith_free (bef : Nat) (h h' : AHeap) : ∀ rs, okWith bef .free h h' rs = true
  | [] => rfl
  | r :: rs => by
    have : compat r .free h h' = true := by unfold compat; cases r.k <;> rfl
    simp only [okWith, this, Bool.or_true, Bool.true_and, okWith_free bef h h' rs]

theorem recD_sound {f : List Rec → Option (Nat × AV) → AAct → AHeap → Post → Prop} {i bef : Nat} {k : Cls} {a : AAct} {h h' : AHeap} {rs rs' : List Rec} {pan : Option (Nat × AV)} {K : Post} (t : Thin rs rs') (w : recPD f i bef k a h h' rs pan K) :
    okWith bef k h h' rs' = true ∧ ∃ rs1, Thin rs1 (⟨i, k, h, h'⟩ :: rs') ∧ f rs1 pan a h' K := by
  cases k with
  | free => exact ⟨okWith_free _ _ _ _, rs, .free rfl t, w⟩
  | new => exact ⟨t.ok w.1, _, .cons _ t, w.2⟩
  | rd b => exact ⟨t.ok w.1, _, .cons _ t, w.2⟩
  | wr b => exact ⟨t.ok w.1, _, .cons _ t, w.2⟩
  | big => exact ⟨t.ok w.1, _, .cons _ t, w.2⟩

theorem wpD_sound (all : List (Nat × MOper)) : ∀ (l : List (Nat × MOper)) (rs rs' : List Rec) (pan : Option (Nat × AV)) (a : AAct) (h : AHeap) (K : Post), Thin rs rs' → wpD F all l rs pan a h K → ∃ e a' h', EvD F all l a h rs' pan e a' h' ∧ K e a' h'
  | [], rs, rs', none, a, h, K, _, w => ⟨.norm, a, h, EvD.nil, w⟩
  | [], rs, rs', some (j, v), a, h, K, _, w => ⟨.pan v, _, h, EvD.nilPan, w⟩
  | (i, o) :: r, rs, rs', pan, a, h, K, t, w => by
    simp only [wpD] at w
    cases hs : skipsD o.bef pan with
    | true =>
      rw [hs] at w
      obtain ⟨e, a', h', g, k⟩ := wpD_sound all r _ _ _ _ _ _ t w
      exact ⟨e, a', h', EvD.skip hs g, k⟩
    | false =>
      rw [hs] at w
      simp only [skipPD] at w
      cases hw : wantedA a o.guard with
      | false =>
        rw [hw] at w
        obtain ⟨e, a', h', g, k⟩ := wpD_sound all r _ _ _ _ _ _ t w
        exact ⟨e, a', h', EvD.no hs hw g, k⟩
      | true =>
        rw [hw] at w
        simp only [wantPD] at w
        cases hc : o.op.isCall with
        | true =>
          rw [hc] at w
          rcases w.ev hc with ⟨x, h1, g, k⟩ | ⟨x, h1, g, k⟩
          · simp only [callPD] at k
            obtain ⟨k1, rs1, t1, w1⟩ := recD_sound t k
            obtain ⟨e, a', h', g', k'⟩ := wpD_sound all r _ _ _ _ _ _ t1 w1
            exact ⟨e, a', h', EvD.val hs hw g k1 g', k'⟩
          · cases pan with
            | some _ => exact k.elim
            | none =>
              simp only [callPD] at k
              obtain ⟨k1, rs1, t1, w1⟩ := recD_sound t k
              obtain ⟨e, a', h', g', k'⟩ := wpD_sound all r _ _ _ _ _ _ t1 w1
              exact ⟨e, a', h', EvD.pan hw g k1 g', k'⟩
        | false =>
          rw [hc] at w
          simp only [opPD] at w
          have ev : ∀ res, evO a o.op h = some res → EvO F o.op a h res := fun res he => EvO.of fun call => (evOp_noCall hc).trans he
          split at w
          · rename_i x h1 c1 he
            obtain ⟨k1, rs1, t1, w1⟩ := recD_sound t w
            obtain ⟨e, a', h', g', k'⟩ := wpD_sound all r _ _ _ _ _ _ t1 w1
            exact ⟨e, a', h', EvD.val hs hw (ev _ he) k1 g', k'⟩
          · rename_i x h1 he
            cases pan with
            | some _ => exact w.elim
            | none =>
              obtain ⟨k1, rs1, t1, w1⟩ := recD_sound t w
              obtain ⟨e, a', h', g', k'⟩ := wpD_sound all r _ _ _ _ _ _ t1 w1
              exact ⟨e, a', h', EvD.pan hw (ev _ he) k1 g', k'⟩
          · exact w.elim

theorem wpC_sound : ∀ (c : MCode) (a : AAct) (h : AHeap) (K : Post), wpC F c a h K → ∃ e a' h', EvC F c a h e a' h' ∧ K e a' h'
  | .skip, a, h, K, w => ⟨_, _, _, EvC.skip, w⟩
  | .exit id, a, h, K, w => ⟨_, _, _, EvC.exit, w⟩
  | .ret, a, h, K, w => ⟨_, _, _, EvC.ret, w⟩
  | .reg ops, a, h, K, w => by
    obtain ⟨e, a', h', g, k⟩ := wpOps_sound ops a h K w
    exact ⟨e, a', h', EvC.reg g, k⟩
  | .regD ops, a, h, K, w => by
    obtain ⟨e, a', h', g, k⟩ := wpD_sound ops ops [] [] none a h K .nil w
    exact ⟨e, a', h', EvC.regD g, k⟩
  | .seq x y, a, h, K, w => by
    obtain ⟨e, a', h', g, k⟩ := wpC_sound x a h _ w
    cases e with
    | norm =>
      obtain ⟨e2, a2, h2, g2, k2⟩ := wpC_sound y a' h' K k
      exact ⟨e2, a2, h2, EvC.seq g g2, k2⟩
    | exit i => exact ⟨_, _, _, EvC.seqOut g (by simp), k⟩
    | ret => exact ⟨_, _, _, EvC.seqOut g (by simp), k⟩
    | pan v => exact ⟨_, _, _, EvC.seqOut g (by simp), k⟩
  | .cond c x y, a, h, K, w => by
    simp only [wpC] at w
    unfold condP at w
    split at w
    · rename_i hc
      obtain ⟨e, a', h', g, k⟩ := wpC_sound x a h K w
      exact ⟨e, a', h', EvC.cond hc g, k⟩
    · rename_i hc
      obtain ⟨e, a', h', g, k⟩ := wpC_sound y a h K w
      exact ⟨e, a', h', EvC.cond hc g, k⟩
    · exact w.elim
  | .block id x, a, h, K, w => by
    obtain ⟨e, a', h', g, k⟩ := wpC_sound x a h _ w
    cases e with
    | exit i =>
      simp only [blP] at k
      split at k
      · rename_i hi
        have : i = id := Nat.eq_of_beq_eq_true hi
        subst this
        exact ⟨_, _, _, EvC.block g, k⟩
      · rename_i hi
        exact ⟨_, _, _, EvC.blockOut g (fun q => by cases q; rw [Nat.beq_refl] at hi; cases hi), k⟩
    | norm => exact ⟨_, _, _, EvC.blockOut g (by simp), k⟩
    | ret => exact ⟨_, _, _, EvC.blockOut g (by simp), k⟩
    | pan v => exact ⟨_, _, _, EvC.blockOut g (by simp), k⟩
  | .loop x, a, h, K, w => by
    obtain ⟨e, a', h', g, k⟩ := w
    exact ⟨e, a', h', EvC.loop g, k⟩

/-- A loop, by what holds ahead of each round and a number that falls. -/
def loopP (I : Nat → AAct → AHeap → Prop) (n : Nat) (K : Post) : Post
  | .norm, a, h => ∃ m, m < n ∧ I m a h
  | e, a, h => K e a h
theorem wp_loop (I : Nat → AAct → AHeap → Prop) {x : MCode} {K : Post} (step : ∀ n a h, I n a h → wpC F x a h (loopP I n K)) : ∀ (n : Nat) {a : AAct} {h : AHeap}, I n a h → wpC F (.loop x) a h K := by
  intro n
  induction n using Nat.strongRecOn with
  | _ n ih =>
    intro a h hI
    obtain ⟨e, a', h', g, k⟩ := wpC_sound x a h _ (step n a h hI)
    cases e with
    | norm =>
      obtain ⟨m, hm, hI'⟩ := k
      obtain ⟨e2, a2, h2, g2, k2⟩ := ih m hm hI'
      exact ⟨e2, a2, h2, EvL.round g g2, k2⟩
    | exit i => exact ⟨_, _, _, EvL.out g (by simp), k⟩
    | ret => exact ⟨_, _, _, EvL.out g (by simp), k⟩
    | pan v => exact ⟨_, _, _, EvL.out g (by simp), k⟩

/-- A deferred closure that takes up what a frame leaves with. -/
def WDef (F : FT) (f : FuncId) (args : List AV) (lv : Lv) (h : AHeap) (Q : AHeap → Prop) : Prop :=
  ∃ h', (∃ k0, ∀ k, k0 ≤ k → evDefer (evCall F k) k (F f) args lv h = some (.ret, h')) ∧ Q h'
def finLP (F : FT) (res : List RV) (Q : QR) (a : AAct) : List (FuncId × List AV) → Lv → AHeap → Prop
  | [], .ret, h => match resA a h res with | some vs => Q (.ret (one vs)) h | none => False
  | [], .pan v, h => Q (.pan v) h
  | (f, args) :: r, lv, h => WDef F f args lv h (finLP F res Q a r .ret)
def finP (F : FT) (res : List RV) (Q : QR) : Post
  | .norm, a, h => finLP F res Q a a.df .ret h
  | .ret, a, h => finLP F res Q a a.df .ret h
  | .pan v, a, h => finLP F res Q a a.df (.pan v) h
  | .exit _, _, _ => False

theorem finL_sound {res : List RV} {Q : QR} {a : AAct} : ∀ (l : List (FuncId × List AV)) (lv : Lv) (h : AHeap), finLP F res Q a l lv h → ∃ r h', (∃ k0, ∀ k, k0 ≤ k → leave (evCall F k) k F res a l lv h = some (r, h')) ∧ Q r h'
  | [], .ret, h, w => by
    simp only [finLP] at w
    split at w
    · rename_i vs hv
      exact ⟨_, _, ⟨0, fun k _ => by simp only [leave, hv]⟩, w⟩
    · exact w.elim
  | [], .pan v, h, w => ⟨_, _, ⟨0, fun k _ => by simp only [leave]⟩, w⟩
  | (f, args) :: r, lv, h, w => by
    obtain ⟨h1, ⟨k0, g0⟩, w1⟩ := w
    obtain ⟨x, h', ⟨k1, g1⟩, q⟩ := finL_sound r .ret h1 w1
    refine ⟨x, h', ⟨max k0 k1, fun k hk => ?_⟩, q⟩
    simp only [leave, g0 k (by omega), g1 k (by omega)]

theorem WF.code {f : FuncId} {args : List AV} {h : AHeap} {Q : QR} {nt : Nat} {body : MCode} {res : List RV} (hf : F f = some (.code nt body res)) (hn : args.length.ble nt = true) (w : wpC F body ⟨initTm args 0 .nil, []⟩ h (finP F res Q)) : WF F f args h Q := by
  obtain ⟨e, a, h1, ⟨k0, g0⟩, k⟩ := wpC_sound _ _ _ _ w
  have fin : ∀ lv, finLP F res Q a a.df lv h1 → (∀ k, k0 ≤ k → evCall F (k + 1) f args h = leave (evCall F k) k F res a a.df lv h1) → WF F f args h Q := by
    intro lv hl he
    obtain ⟨r, h', ⟨k1, g1⟩, q⟩ := finL_sound _ _ _ hl
    refine ⟨r, h', ⟨max k0 k1 + 1, fun k hk => ?_⟩, q⟩
    obtain ⟨m, rfl⟩ : ∃ m, k = m + 1 := ⟨k - 1, by omega⟩
    rw [he m (by omega)]
    exact g1 m (by omega)
  have hb : ∀ k, evCall F (k + 1) f args h = (match evCode (evCall F k) k body ⟨initTm args 0 .nil, []⟩ h with
      | some (.norm, a, h') => leave (evCall F k) k F res a a.df .ret h'
      | some (.ret, a, h') => leave (evCall F k) k F res a a.df .ret h'
      | some (.pan v, a, h') => leave (evCall F k) k F res a a.df (.pan v) h'
      | _ => none) := fun k => by simp only [evCall, hf, hn, Bool.not_true, cond_false]; rfl
  cases e with
  | norm => exact fin .ret k fun k hk => by rw [hb, g0 k hk]
  | ret => exact fin .ret k fun k hk => by rw [hb, g0 k hk]
  | pan v => exact fin (.pan v) k fun k hk => by rw [hb, g0 k hk]
  | exit i => exact k.elim

theorem WF.prim {f : FuncId} {args : List AV} {h h' : AHeap} {Q : QR} {p : List AV → AHeap → Option (CRes × AHeap)} {r : CRes} (hf : F f = some (.prim p)) (hp : p args h = some (r, h')) (hQ : Q r h') : WF F f args h Q :=
  ⟨r, h', Ev.prim hf hp, hQ⟩

def defP (Q : AHeap → Prop) : Post
  | .norm, a, h => a.df = [] ∧ Q h
  | .ret, a, h => a.df = [] ∧ Q h
  | _, _, _ => False
def defP0 (f : AAct → AHeap → Post → Prop) (Q : AHeap → Prop) : Post
  | .norm, a, h => f a h (defP Q)
  | _, _, _ => False
theorem WDef.code {f : FuncId} {args : List AV} {lv : Lv} {h : AHeap} {Q : AHeap → Prop} {nt : Nat} {d : Option Nat} {b : Nat} {ops : List MOper} {rest : MCode} (hf : F f = some (.code nt (.seq (.reg (⟨d, .recover, none, b⟩ :: ops)) rest) [])) (hn : args.length.ble nt = true) (w : wpOps F ops (AAct.put ⟨initTm args 0 .nil, []⟩ d lv.val) h (defP0 (wpC F rest) Q)) : WDef F f args lv h Q := by
  obtain ⟨e, a, h1, ⟨k0, g0⟩, k⟩ := wpOps_sound _ _ _ _ w
  cases e with
  | norm =>
    obtain ⟨e2, a2, h2, ⟨k1, g1⟩, k2⟩ := wpC_sound _ _ _ _ k
    cases e2 with
    | norm =>
      obtain ⟨hd, q⟩ := k2
      obtain ⟨tm, df⟩ := a2
      cases hd
      exact ⟨h2, ⟨max k0 k1, fun k hk => by rw [hf]; simp only [evDefer, hn, Bool.not_true, cond_false, g0 k (by omega), g1 k (by omega)]⟩, q⟩
    | ret =>
      obtain ⟨hd, q⟩ := k2
      obtain ⟨tm, df⟩ := a2
      cases hd
      exact ⟨h2, ⟨max k0 k1, fun k hk => by rw [hf]; simp only [evDefer, hn, Bool.not_true, cond_false, g0 k (by omega), g1 k (by omega)]⟩, q⟩
    | exit i => exact k2.elim
    | pan v => exact k2.elim
  | exit i => exact k.elim
  | ret => exact k.elim
  | pan v => exact k.elim
theorem WF.mono {f : FuncId} {args : List AV} {h : AHeap} {Q Q' : QR} (hq : ∀ r h', Q r h' → Q' r h') (w : WF F f args h Q) : WF F f args h Q' := w.imp hq
theorem WCall.mono {c : Option (FuncId × List AV)} {h : AHeap} {Q Q' : QR} (hq : ∀ r h', Q r h' → Q' r h') (w : WCall F c h Q) : WCall F c h Q' := by
  unfold WCall at *
  split at w
  · exact w.imp hq
  · exact w
theorem wpOps_mono {K K' : Post} (hK : ∀ e a h, K e a h → K' e a h) : ∀ (l : List MOper) (a : AAct) (h : AHeap), wpOps F l a h K → wpOps F l a h K'
  | [], a, h, w => hK _ _ _ w
  | o :: r, a, h, w => by
    simp only [wpOps] at w ⊢
    unfold wantP at w ⊢
    split at w
    · split at w
      · refine w.mono fun r' h' q => ?_
        cases r' with
        | ret x => exact wpOps_mono hK r _ _ q
        | pan x => exact hK _ _ _ q
      · unfold opP at w ⊢
        split at w
        · exact wpOps_mono hK r _ _ w
        · exact hK _ _ _ w
        · exact wpOps_mono hK r _ _ w
        · exact w
    · exact wpOps_mono hK r _ _ w
theorem wpD_mono {all : List (Nat × MOper)} {K K' : Post} (hK : ∀ e a h, K e a h → K' e a h) : ∀ (l : List (Nat × MOper)) (rs : List Rec) (pan : Option (Nat × AV)) (a : AAct) (h : AHeap), wpD F all l rs pan a h K → wpD F all l rs pan a h K'
  | [], rs, none, a, h, w => hK _ _ _ w
  | [], rs, some (j, v), a, h, w => hK _ _ _ w
  | (i, o) :: r, rs, pan, a, h, w => by
    have hr : ∀ {i bef : Nat} {k : Cls} {a : AAct} {h h' : AHeap} {rs : List Rec} {pan : Option (Nat × AV)}, recPD (wpD F all r) i bef k a h h' rs pan K → recPD (wpD F all r) i bef k a h h' rs pan K' := by
      intro i bef k a h h' rs pan w
      unfold recPD at w ⊢
      split at w
      · exact wpD_mono hK r _ _ _ _ w
      · exact ⟨w.1, wpD_mono hK r _ _ _ _ w.2⟩
    simp only [wpD] at w ⊢
    unfold skipPD at w ⊢
    split at w
    · exact wpD_mono hK r _ _ _ _ w
    · unfold wantPD at w ⊢
      split at w
      · split at w
        · refine w.mono fun r' h' q => ?_
          cases r' with
          | ret x => unfold callPD at q ⊢; exact hr q
          | pan x => cases pan with
            | none => unfold callPD at q ⊢; exact hr q
            | some _ => exact q
        · unfold opPD at w ⊢
          split at w
          · exact hr w
          · split at w
            · exact hr w
            · exact w
          · exact w
      · exact wpD_mono hK r _ _ _ _ w
theorem wpC_mono : ∀ (c : MCode) {K K' : Post} (_ : ∀ e a h, K e a h → K' e a h) (a : AAct) (h : AHeap), wpC F c a h K → wpC F c a h K'
  | .skip, K, K', hK, a, h, w => hK _ _ _ w
  | .exit id, K, K', hK, a, h, w => hK _ _ _ w
  | .ret, K, K', hK, a, h, w => hK _ _ _ w
  | .reg ops, K, K', hK, a, h, w => wpOps_mono hK ops a h w
  | .regD ops, K, K', hK, a, h, w => wpD_mono hK ops [] none a h w
  | .seq x y, K, K', hK, a, h, w => wpC_mono x (fun e a h q => by
      cases e with
      | norm => exact wpC_mono y hK a h q
      | _ => exact hK _ _ _ q) a h w
  | .cond c x y, K, K', hK, a, h, w => by
    simp only [wpC] at w ⊢
    unfold condP at w ⊢
    split at w
    · exact wpC_mono x hK _ _ w
    · exact wpC_mono y hK _ _ w
    · exact w
  | .block id x, K, K', hK, a, h, w => wpC_mono x (fun e a h q => by
      cases e with
      | exit i => unfold blP at q ⊢; simp only at q ⊢; split at q <;> exact hK _ _ _ q
      | _ => exact hK _ _ _ q) a h w
  | .loop x, K, K', hK, a, h, w => by
    obtain ⟨e, a', h', g, k⟩ := w
    exact ⟨e, a', h', g, hK _ _ _ k⟩
/-- A place at which ways meet. -/
def cutP (I : AAct → AHeap → Prop) (K : Post) : Post
  | .norm, a, h => I a h
  | e, a, h => K e a h
theorem cutP_sq {I : AAct → AHeap → Prop} {K : Post} {y : MCode} (hI : ∀ a h, I a h → wpC F y a h K) (e : AExit) (a : AAct) (h : AHeap) (q : cutP I K e a h) : sqP (wpC F y) K e a h := by
  cases e with
  | norm => exact hI a h q
  | _ => exact q
theorem cond_cut (I : AAct → AHeap → Prop) {x x' y : MCode} {c : AV} {a : AAct} {h : AHeap} {K : Post} (w : condP (wpC F x) (wpC F x') c a h (cutP I K)) (hI : ∀ a h, I a h → wpC F y a h K) : condP (wpC F x) (wpC F x') c a h (sqP (wpC F y) K) := by
  unfold condP at w ⊢
  split at w
  · exact wpC_mono x (cutP_sq hI) a h w
  · exact wpC_mono x' (cutP_sq hI) a h w
  · exact w
end

/-! The rewriting rules of the weakest preconditions. -/

section
variable {F : FT} {a : AAct} {h h' : AHeap} {K : Post}

@[go_sem] theorem wpC_skip : wpC F .skip a h K = K .norm a h := Eq.trans rfl rfl
@[go_sem] theorem wpC_reg {ops : List MOper} : wpC F (.reg ops) a h K = wpOps F ops a h K := Eq.trans rfl rfl
@[go_sem] theorem wpC_regD {ops : List (Nat × MOper)} : wpC F (.regD ops) a h K = wpD F ops ops [] none a h K := Eq.trans rfl rfl
@[go_sem] theorem wpC_seq {x y : MCode} : wpC F (.seq x y) a h K = wpC F x a h (sqP (wpC F y) K) := Eq.trans rfl rfl
@[go_sem] theorem wpC_cond {c : Opd} {x y : MCode} : wpC F (.cond c x y) a h K = condP (wpC F x) (wpC F y) (a.eval c) a h K := Eq.trans rfl rfl
@[go_sem] theorem wpC_block {id : Nat} {x : MCode} : wpC F (.block id x) a h K = wpC F x a h (blP id K) := Eq.trans rfl rfl
@[go_sem] theorem wpC_exit {id : Nat} : wpC F (.exit id) a h K = K (.exit id) a h := Eq.trans rfl rfl
@[go_sem] theorem wpC_ret : wpC F .ret a h K = K .ret a h := Eq.trans rfl rfl

@[go_sem] theorem wpOps_nil : wpOps F [] a h K = K .norm a h := Eq.trans rfl rfl
@[go_sem] theorem wpOps_cons {d : Option Nat} {op : MOp} {g : Option (Nat × Bool)} {b : Nat} {r : List MOper} : wpOps F (⟨d, op, g, b⟩ :: r) a h K = wantP F (wpOps F r) (wantedA a g) ⟨d, op, g, b⟩ a h K := Eq.trans rfl rfl
section
variable {f : AAct → AHeap → Post → Prop} {d : Option Nat} {g : Option (Nat × Bool)} {b : Nat} {args : List Opd} {fn : FuncId} {fv : Opd} {op : MOp} {o : MOper}
def kindP (F : FT) (f : AAct → AHeap → Post → Prop) (c : Bool) (d : Option Nat) (op : MOp) (a : AAct) (h : AHeap) (K : Post) : Prop :=
  match c with
  | true => WCall F (calleeA a op) h (callP f d a K)
  | false => opP f (evO a op h) d a h K
@[go_sem] theorem wantP_yes : wantP F f true ⟨d, op, g, b⟩ a h K = kindP F f op.isCall d op a h K := Eq.trans rfl rfl
@[go_sem] theorem kindP_true : kindP F f true d op a h K = WCall F (calleeA a op) h (callP f d a K) := Eq.trans rfl rfl
@[go_sem] theorem kindP_false : kindP F f false d op a h K = opP f (evO a op h) d a h K := Eq.trans rfl rfl
@[go_sem] theorem wantP_no : wantP F f false ⟨d, op, g, b⟩ a h K = f (a.put d undefA) h K := Eq.trans rfl rfl
@[go_sem] theorem opP_v {x : AV} {k : Cls} : opP f (some (.v x h' k)) d a h K = f (a.put d x) h' K := Eq.trans rfl rfl
@[go_sem] theorem opP_pan {x : AV} : opP f (some (.pan x h')) d a h K = K (.pan x) a h' := Eq.trans rfl rfl
@[go_sem] theorem opP_df {as : List AV} : opP f (some (.df fn as)) d a h K = f (AAct.put ⟨a.tm, (fn, as) :: a.df⟩ d undefA) h K := Eq.trans rfl rfl
@[go_sem] theorem callP_ret {x : AV} : callP f d a K (.ret x) h = f (a.put d x) h K := Eq.trans rfl rfl
@[go_sem] theorem callP_pan {x : AV} : callP f d a K (.pan x) h = K (.pan x) a h := Eq.trans rfl rfl
@[go_sem] theorem sqP_norm : sqP f K .norm a h = f a h K := Eq.trans rfl rfl
@[go_sem] theorem sqP_exit {i : Nat} : sqP f K (.exit i) a h = K (.exit i) a h := Eq.trans rfl rfl
@[go_sem] theorem sqP_ret : sqP f K .ret a h = K .ret a h := Eq.trans rfl rfl
@[go_sem] theorem sqP_pan {v : AV} : sqP f K (.pan v) a h = K (.pan v) a h := Eq.trans rfl rfl
@[go_sem] theorem blP_norm {i : Nat} : blP i K .norm a h = K .norm a h := Eq.trans rfl rfl
@[go_sem] theorem blP_exit {i j : Nat} : blP i K (.exit j) a h = if j = i then K .norm a h else K (.exit j) a h := by
  simp only [blP]
  by_cases e : j = i
  · rw [if_pos e, beqT e]
  · rw [if_neg e, beqF e]
@[go_sem] theorem blP_ret {i : Nat} : blP i K .ret a h = K .ret a h := Eq.trans rfl rfl
@[go_sem] theorem blP_pan {i : Nat} {v : AV} : blP i K (.pan v) a h = K (.pan v) a h := Eq.trans rfl rfl
variable {f2 : AAct → AHeap → Post → Prop}
@[go_sem] theorem condP_true : condP f f2 (.bool true) a h K = f a h K := Eq.trans rfl rfl
@[go_sem] theorem condP_false : condP f f2 (.bool false) a h K = f2 a h K := Eq.trans rfl rfl
theorem condP_splitN {c : Bool} (h1 : c = false → f a h K) (h2 : c = true → f2 a h K) : condP f f2 (.bool (!c)) a h K := by cases c; exact h1 rfl; exact h2 rfl
theorem condP_split {c : Bool} (h1 : c = true → f a h K) (h2 : c = false → f2 a h K) : condP f f2 (.bool c) a h K := by cases c; exact h2 rfl; exact h1 rfl
theorem wantP_splitN {w : Bool} (h1 : w = false → wantP F f true o a h K) (h2 : w = true → wantP F f false o a h K) : wantP F f (!w) o a h K := by cases w; exact h1 rfl; exact h2 rfl
theorem wantP_split {w : Bool} (h1 : w = true → wantP F f true o a h K) (h2 : w = false → wantP F f false o a h K) : wantP F f w o a h K := by cases w; exact h2 rfl; exact h1 rfl
end

section
variable {f : List Rec → Option (Nat × AV) → AAct → AHeap → Post → Prop} {i bef : Nat} {d : Option Nat} {g : Option (Nat × Bool)} {args : List Opd} {fn : FuncId} {fv : Opd} {op : MOp} {o : MOper} {rs : List Rec} {pan : Option (Nat × AV)} {all r : List (Nat × MOper)}
@[go_sem] theorem wpD_nil : wpD F all [] rs none a h K = K .norm a h := Eq.trans rfl rfl
@[go_sem] theorem wpD_nilPan {v : AV} : wpD F all [] rs (some (i, v)) a h K = K (.pan v) ⟨dels all a.tm, a.df⟩ h := Eq.trans rfl rfl
@[go_sem] theorem wpD_cons : wpD F all ((i, ⟨d, op, g, bef⟩) :: r) rs pan a h K = skipPD F (wpD F all r) (skipsD bef pan) i ⟨d, op, g, bef⟩ a h rs pan K := by cases pan <;> rfl
@[go_sem] theorem skipsD_none : skipsD bef none = false := Eq.trans rfl rfl
@[go_sem] theorem skipsD_some {v : AV} : skipsD bef (some (i, v)) = bef.testBit i := Eq.trans rfl rfl
@[go_sem] theorem skipPD_true : skipPD F f true i ⟨d, op, g, bef⟩ a h rs pan K = f rs pan a h K := Eq.trans rfl rfl
@[go_sem] theorem skipPD_false : skipPD F f false i ⟨d, op, g, bef⟩ a h rs pan K = wantPD F f (wantedA a g) i ⟨d, op, g, bef⟩ a h rs pan K := Eq.trans rfl rfl
def kindPD (F : FT) (f : List Rec → Option (Nat × AV) → AAct → AHeap → Post → Prop) (c : Bool) (i bef : Nat) (d : Option Nat) (op : MOp) (a : AAct) (h : AHeap) (rs : List Rec) (pan : Option (Nat × AV)) (K : Post) : Prop :=
  match c with
  | true => WCall F (calleeA a op) h (callPD f i bef d a h rs pan K)
  | false => opPD f (evO a op h) i bef d a h rs pan K
@[go_sem] theorem wantPD_yes : wantPD F f true i ⟨d, op, g, bef⟩ a h rs pan K = kindPD F f op.isCall i bef d op a h rs pan K := Eq.trans rfl rfl
@[go_sem] theorem kindPD_true : kindPD F f true i bef d op a h rs pan K = WCall F (calleeA a op) h (callPD f i bef d a h rs pan K) := Eq.trans rfl rfl
@[go_sem] theorem kindPD_false : kindPD F f false i bef d op a h rs pan K = opPD f (evO a op h) i bef d a h rs pan K := Eq.trans rfl rfl
@[go_sem] theorem wantPD_no : wantPD F f false i ⟨d, op, g, bef⟩ a h rs pan K = f rs pan (a.put d undefA) h K := Eq.trans rfl rfl
theorem wantPD_splitN {w : Bool} (h1 : w = false → wantPD F f true i o a h rs pan K) (h2 : w = true → wantPD F f false i o a h rs pan K) : wantPD F f (!w) i o a h rs pan K := by cases w; exact h1 rfl; exact h2 rfl
theorem wantPD_split {w : Bool} (h1 : w = true → wantPD F f true i o a h rs pan K) (h2 : w = false → wantPD F f false i o a h rs pan K) : wantPD F f w i o a h rs pan K := by cases w; exact h2 rfl; exact h1 rfl
@[go_sem] theorem opPD_v {x : AV} {k : Cls} : opPD f (some (.v x h' k)) i bef d a h rs pan K = recPD f i bef k (a.put d x) h h' rs pan K := Eq.trans rfl rfl
@[go_sem] theorem opPD_pan {x : AV} : opPD f (some (.pan x h')) i bef d a h rs none K = recPD f i bef .big a h h' rs (some (i, x)) K := Eq.trans rfl rfl
@[go_sem] theorem callPD_ret {x : AV} : callPD f i bef d a h rs pan K (.ret x) h' = recPD f i bef .big (a.put d x) h h' rs pan K := Eq.trans rfl rfl
@[go_sem] theorem callPD_pan {x : AV} : callPD f i bef d a h rs none K (.pan x) h' = recPD f i bef .big a h h' rs (some (i, x)) K := Eq.trans rfl rfl
@[go_sem] theorem recPD_free : recPD f i bef .free a h h' rs pan K = f rs pan a h' K := Eq.trans rfl rfl
@[go_sem] theorem recPD_new : recPD f i bef .new a h h' rs pan K = (okWith bef .new h h' rs = true ∧ f (⟨i, .new, h, h'⟩ :: rs) pan a h' K) := Eq.trans rfl rfl
@[go_sem] theorem recPD_rd {b : Nat} : recPD f i bef (.rd b) a h h' rs pan K = (okWith bef (.rd b) h h' rs = true ∧ f (⟨i, .rd b, h, h'⟩ :: rs) pan a h' K) := Eq.trans rfl rfl
@[go_sem] theorem recPD_wr {b : Nat} : recPD f i bef (.wr b) a h h' rs pan K = (okWith bef (.wr b) h h' rs = true ∧ f (⟨i, .wr b, h, h'⟩ :: rs) pan a h' K) := Eq.trans rfl rfl
@[go_sem] theorem recPD_big : recPD f i bef .big a h h' rs pan K = (okWith bef .big h h' rs = true ∧ f (⟨i, .big, h, h'⟩ :: rs) pan a h' K) := Eq.trans rfl rfl
attribute [go_sem] okWith compat Nat.testBit_eq_decide_div_mod_eq decide_true decide_false Bool.true_or Bool.or_true Bool.false_or Bool.or_false Bool.and_true Bool.true_and Bool.and_false Bool.false_and Bool.not_true Bool.not_false true_and and_true
end
@[go_sem] theorem WCall_some {f : FuncId} {args : List AV} {Q : QR} : WCall F (some (f, args)) h Q = WF F f args h Q := Eq.trans rfl rfl

@[go_sem] theorem put_some {d : Nat} {v : AV} : a.put (some d) v = ⟨a.tm.set d v, a.df⟩ := Eq.trans rfl rfl
@[go_sem] theorem put_none {v : AV} : a.put none v = a := Eq.trans rfl rfl
@[go_sem] theorem eval_t {t : Tr AV} {df : List (FuncId × List AV)} {i : Nat} : AAct.eval ⟨t, df⟩ (.t i) = (t.get i).getD undefA := Eq.trans rfl rfl
@[go_sem] theorem eval_c {v : AV} : AAct.eval a (.c v) = v := Eq.trans rfl rfl
@[go_sem] theorem wanted_none : wantedA a none = true := Eq.trans rfl rfl
def wantB : Option AV → Bool → Bool
  | some (.bool b), true => b
  | some (.bool b), false => !b
  | _, _ => false
@[go_sem] theorem wantB_true {b : Bool} : wantB (some (.bool b)) true = b := Eq.trans rfl rfl
@[go_sem] theorem wantB_false {b : Bool} : wantB (some (.bool b)) false = !b := Eq.trans rfl rfl
@[go_sem] theorem wanted_some {t : Nat} {w : Bool} {x : Tr AV} {df : List (FuncId × List AV)} : wantedA ⟨x, df⟩ (some (t, w)) = wantB (x.get t) w := by
  simp only [wantedA]
  generalize x.get t = y
  cases y with
  | none => rfl
  | some v => cases v with
    | bool b => cases w <;> cases b <;> rfl
    | _ => rfl
@[go_sem] theorem bin_lss {k : IntKind} {x y : Int} : binA .lss (.int k x) (.int k y) = some (.bool (decide (x < y))) := by simp [binA, intBin]
@[go_sem] theorem bin_leq {k : IntKind} {x y : Int} : binA .leq (.int k x) (.int k y) = some (.bool (decide (x ≤ y))) := by simp [binA, intBin]
@[go_sem] theorem bin_gtr {k : IntKind} {x y : Int} : binA .gtr (.int k x) (.int k y) = some (.bool (decide (x > y))) := by simp [binA, intBin]
@[go_sem] theorem bin_geq {k : IntKind} {x y : Int} : binA .geq (.int k x) (.int k y) = some (.bool (decide (x ≥ y))) := by simp [binA, intBin]
@[go_sem] theorem bin_eql {k : IntKind} {x y : Int} : binA .eql (.int k x) (.int k y) = some (.bool (x == y)) := by simp [binA, intBin]
@[go_sem] theorem bin_neq {k : IntKind} {x y : Int} : binA .neq (.int k x) (.int k y) = some (.bool (x != y)) := by simp [binA, intBin]
@[go_sem] theorem bin_add {k : IntKind} {x y : Int} : binA .add (.int k x) (.int k y) = some (.int k (wr k (x + y))) := by simp [binA, intBin]
@[go_sem] theorem bin_sub {k : IntKind} {x y : Int} : binA .sub (.int k x) (.int k y) = some (.int k (wr k (x - y))) := by simp [binA, intBin]
@[go_sem] theorem bin_mul {k : IntKind} {x y : Int} : binA .mul (.int k x) (.int k y) = some (.int k (wr k (x * y))) := by simp [binA, intBin]
@[go_sem] theorem bin_quo {k : IntKind} {x y : Int} (hy : y ≠ 0) : binA .quo (.int k x) (.int k y) = some (.int k (wr k (x.tdiv y))) := by
  have e : (y == 0) = false := beq_eq_false_iff_ne.2 hy
  simp [binA, intBin, e]
@[go_sem] theorem bin_rem {k : IntKind} {x y : Int} (hy : y ≠ 0) : binA .rem (.int k x) (.int k y) = some (.int k (x.tmod y)) := by
  have e : (y == 0) = false := beq_eq_false_iff_ne.2 hy
  simp [binA, intBin, e]
@[go_sem] theorem bin_str {op : BinOp} {x y : List UInt8} : binA op (.str x) (.str y) = strBin op x y := by simp [binA]
@[go_sem] theorem str_add {x y : List UInt8} (h : x.length + y.length ≤ 9223372036854775807) : strBin .add x y = some (.str (x ++ y)) := by
  simp only [strBin, Nat.ble_eq_true_of_le h, cond_true]
@[go_sem] theorem str_eql {x y : List UInt8} : strBin .eql x y = some (.bool (x == y)) := Eq.trans rfl rfl
@[go_sem] theorem str_neq {x y : List UInt8} : strBin .neq x y = some (.bool !(x == y)) := Eq.trans rfl rfl
theorem fits_i64 {n : Int} (h1 : -9223372036854775808 ≤ n) (h2 : n ≤ 9223372036854775807) : fits .i64 n = true := by simp [fits, h1, h2]
@[go_sem] theorem wr_i64 {n : Int} (h1 : -9223372036854775808 ≤ n) (h2 : n ≤ 9223372036854775807) : wr .i64 n = n := by unfold wr; rw [fits_i64 h1 h2]; rfl
@[go_sem] theorem wr_u8 {n : Int} (h1 : 0 ≤ n) (h2 : n ≤ 255) : wr .u8 n = n := by simp [wr, fits, h1, h2]
@[go_sem] theorem wr_u64 {n : Int} (h1 : 0 ≤ n) (h2 : n ≤ 18446744073709551615) : wr .u64 n = n := by simp [wr, fits, h1, h2]
attribute [go_sem] List.getElem?_cons_zero List.getElem?_cons_succ Int.toNat_natCast unA allFlat List.all_cons List.all_nil
@[go_sem] theorem cells_bool {b : Bool} : AV.cells (.bool b) = [.bool b] := Eq.trans rfl rfl
@[go_sem] theorem flat_bool {b : Bool} : AV.flat (.bool b) = true := Eq.trans rfl rfl
@[go_sem] theorem cells_int {k : IntKind} {n : Int} : AV.cells (.int k n) = [.int k n] := Eq.trans rfl rfl
@[go_sem] theorem flat_int {k : IntKind} {n : Int} : AV.flat (.int k n) = true := Eq.trans rfl rfl
@[go_sem] theorem cells_float {k : FloatKind} {n : Nat} : AV.cells (.float k n) = [.float k n] := Eq.trans rfl rfl
@[go_sem] theorem flat_float {k : FloatKind} {n : Nat} : AV.flat (.float k n) = true := Eq.trans rfl rfl
@[go_sem] theorem cells_str {s : List UInt8} : AV.cells (.str s) = [.str s] := Eq.trans rfl rfl
@[go_sem] theorem flat_str {s : List UInt8} : AV.flat (.str s) = true := Eq.trans rfl rfl
@[go_sem] theorem cells_ptr {b o : Nat} : AV.cells (.ptr b o) = [.ptr b o] := Eq.trans rfl rfl
@[go_sem] theorem flat_ptr {b o : Nat} : AV.flat (.ptr b o) = true := Eq.trans rfl rfl
@[go_sem] theorem cells_nilPtr  : AV.cells (.nilPtr) = [.nilPtr] := Eq.trans rfl rfl
@[go_sem] theorem flat_nilPtr  : AV.flat (.nilPtr) = true := Eq.trans rfl rfl
@[go_sem] theorem cells_slice {b o l c : Nat} {e : Bool} : AV.cells (.slice b o l c e) = [.slice b o l c e] := Eq.trans rfl rfl
@[go_sem] theorem flat_slice {b o l c : Nat} {e : Bool} : AV.flat (.slice b o l c e) = true := Eq.trans rfl rfl
@[go_sem] theorem cells_nilSlice  : AV.cells (.nilSlice) = [.nilSlice] := Eq.trans rfl rfl
@[go_sem] theorem flat_nilSlice  : AV.flat (.nilSlice) = true := Eq.trans rfl rfl
@[go_sem] theorem cells_map {r : Nat} : AV.cells (.map r) = [.map r] := Eq.trans rfl rfl
@[go_sem] theorem flat_map {r : Nat} : AV.flat (.map r) = true := Eq.trans rfl rfl
@[go_sem] theorem cells_nilMap  : AV.cells (.nilMap) = [.nilMap] := Eq.trans rfl rfl
@[go_sem] theorem flat_nilMap  : AV.flat (.nilMap) = true := Eq.trans rfl rfl
@[go_sem] theorem cells_func {f : Fn} {a b : List AV} : AV.cells (.func f a b) = [.func f a b] := Eq.trans rfl rfl
@[go_sem] theorem flat_func {f : Fn} {a b : List AV} : AV.flat (.func f a b) = true := Eq.trans rfl rfl
@[go_sem] theorem cells_nilFunc  : AV.cells (.nilFunc) = [.nilFunc] := Eq.trans rfl rfl
@[go_sem] theorem flat_nilFunc  : AV.flat (.nilFunc) = true := Eq.trans rfl rfl
@[go_sem] theorem cells_iface {t : TypeId} {v : AV} : AV.cells (.iface t v) = [.iface t v] := Eq.trans rfl rfl
@[go_sem] theorem flat_iface {t : TypeId} {v : AV} : AV.flat (.iface t v) = true := Eq.trans rfl rfl
@[go_sem] theorem cells_nilIface  : AV.cells (.nilIface) = [.nilIface] := Eq.trans rfl rfl
@[go_sem] theorem flat_nilIface  : AV.flat (.nilIface) = true := Eq.trans rfl rfl
@[go_sem] theorem cells_agg {cs : List AV} : AV.cells (.agg cs) = cs := Eq.trans rfl rfl
@[go_sem] theorem int_nn {n : Nat} : ((0 : Int) ≤ (n : Int)) = True := by simp
@[go_sem] theorem beq_nat {m n : Nat} : m.beq n = decide (m = n) := by
  by_cases e : m = n
  · rw [beqT e, decide_eq_true e]
  · rw [beqF e, decide_eq_false e]
@[go_sem] theorem ble_nat {m n : Nat} : m.ble n = decide (m ≤ n) := by
  by_cases e : m ≤ n
  · rw [Nat.ble_eq_true_of_le e, decide_eq_true e]
  · rw [decide_eq_false e]; cases q : m.ble n; rfl; exact absurd (Nat.le_of_ble_eq_true q) e
theorem get_alloc_new {o : AObj} {b : Nat} (h1 : b ≤ h.n) (h2 : h.n ≤ b) : (h.alloc o).get b = some ⟨0, o⟩ := by rw [AHeap.get_alloc, if_pos (Nat.le_antisymm h1 h2)]
theorem get_alloc_old {o : AObj} {b : Nat} (hb : b ≠ h.n) : (h.alloc o).get b = h.get b := by rw [AHeap.get_alloc, if_neg hb]
theorem get_upd_at {o : AObj} {b b' v : Nat} (h1 : b ≤ b') (h2 : b' ≤ b) : (h.upd b' v o).get b = some ⟨v, o⟩ := by rw [AHeap.get_upd, if_pos (Nat.le_antisymm h1 h2)]
theorem get_upd_off {o : AObj} {b b' v : Nat} (hb : b ≠ b') : (h.upd b' v o).get b = h.get b := by rw [AHeap.get_upd, if_neg hb]
@[go_sem] theorem row_tl {x : AV} {vs : List AV} {o n : Nat} : row (x :: vs) (o + 1) n = row vs o n := by
  simp only [row, List.length_cons, List.drop_succ_cons, ble_nat]
  by_cases e : o + n ≤ vs.length
  · rw [decide_eq_true (show o + 1 + n ≤ vs.length + 1 by omega), decide_eq_true e]
  · rw [decide_eq_false (show ¬ o + 1 + n ≤ vs.length + 1 by omega), decide_eq_false e]
@[go_sem] theorem row_nil {vs : List AV} : row vs 0 0 = some [] := by simp [row, ble_nat]
@[go_sem] theorem row_hd {x : AV} {vs : List AV} {n : Nat} : row (x :: vs) 0 (n + 1) = (row vs 0 n).map (x :: ·) := by
  simp only [row, List.length_cons, List.drop_zero, List.take_succ_cons, Nat.zero_add, ble_nat]
  by_cases e : n ≤ vs.length
  · rw [decide_eq_true (show n + 1 ≤ vs.length + 1 by omega), decide_eq_true e]; rfl
  · rw [decide_eq_false (show ¬ n + 1 ≤ vs.length + 1 by omega), decide_eq_false e]; rfl
@[go_sem] theorem lay_tl {x : AV} {vs cs : List AV} {o : Nat} : lay (x :: vs) (o + 1) cs = (lay vs o cs).map (x :: ·) := by
  simp only [lay, List.length_cons, List.take_succ_cons, ble_nat]
  by_cases e : o + cs.length ≤ vs.length
  · rw [decide_eq_true (show o + 1 + cs.length ≤ vs.length + 1 by omega), decide_eq_true e, show o + 1 + cs.length = o + cs.length + 1 by omega]; rfl
  · rw [decide_eq_false (show ¬ o + 1 + cs.length ≤ vs.length + 1 by omega), decide_eq_false e]; rfl
@[go_sem] theorem lay_nil {vs : List AV} : lay vs 0 [] = some vs := by simp [lay, ble_nat]
@[go_sem] theorem lay_hd {x c : AV} {vs cs : List AV} : lay (x :: vs) 0 (c :: cs) = (lay vs 0 cs).map (c :: ·) := by
  simp only [lay, List.length_cons, Nat.zero_add, ble_nat]
  by_cases e : cs.length ≤ vs.length
  · rw [decide_eq_true (show cs.length + 1 ≤ vs.length + 1 by omega), decide_eq_true e]; rfl
  · rw [decide_eq_false (show ¬ cs.length + 1 ≤ vs.length + 1 by omega), decide_eq_false e]; rfl
theorem bnd_num {k : IntKind} {i d n : Nat} (h : i ≤ n) : bnd (some (.int k (i : Int))) d n = some i := by simp [bnd, h]
theorem bnd_none {d n : Nat} : bnd none d n = some d := Eq.trans rfl rfl
attribute [go_sem] bnd_num bnd_none Option.map_some Option.map_none fillA List.length_cons List.length_nil Nat.zero_add
attribute [go_sem] get_alloc_new get_alloc_old get_upd_at get_upd_off AHeap.alloc_n AHeap.upd_n
section
variable {res : List RV} {Q : QR}
def resP (Q : QR) (h : AHeap) : Option (List AV) → Prop
  | some vs => Q (.ret (one vs)) h
  | none => False
@[go_sem] theorem resP_some {vs : List AV} : resP Q h (some vs) = Q (.ret (one vs)) h := Eq.trans rfl rfl
@[go_sem] theorem finP_ret : finP F res Q .ret a h = finLP F res Q a a.df .ret h := Eq.trans rfl rfl
@[go_sem] theorem finP_norm : finP F res Q .norm a h = finLP F res Q a a.df .ret h := Eq.trans rfl rfl
@[go_sem] theorem finP_pan {v : AV} : finP F res Q (.pan v) a h = finLP F res Q a a.df (.pan v) h := Eq.trans rfl rfl
@[go_sem] theorem finLP_ret : finLP F res Q a [] .ret h = resP Q h (resA a h res) := by unfold finLP resP; cases resA a h res <;> rfl
@[go_sem] theorem finLP_pan {v : AV} : finLP F res Q a [] (.pan v) h = Q (.pan v) h := Eq.trans rfl rfl
@[go_sem] theorem finLP_df {f : FuncId} {args : List AV} {r : List (FuncId × List AV)} {lv : Lv} : finLP F res Q a ((f, args) :: r) lv h = WDef F f args lv h (finLP F res Q a r .ret) := Eq.trans rfl rfl
@[go_sem] theorem defP_norm {Q : AHeap → Prop} : defP Q .norm a h = (a.df = [] ∧ Q h) := Eq.trans rfl rfl
@[go_sem] theorem defP_ret {Q : AHeap → Prop} : defP Q .ret a h = (a.df = [] ∧ Q h) := Eq.trans rfl rfl
@[go_sem] theorem defP0_norm {f : AAct → AHeap → Post → Prop} {Q : AHeap → Prop} : defP0 f Q .norm a h = f a h (defP Q) := Eq.trans rfl rfl
@[go_sem] theorem cutP_norm {I : AAct → AHeap → Prop} : cutP I K .norm a h = I a h := Eq.trans rfl rfl
@[go_sem] theorem cutP_exit {I : AAct → AHeap → Prop} {i : Nat} : cutP I K (.exit i) a h = K (.exit i) a h := Eq.trans rfl rfl
@[go_sem] theorem cutP_ret {I : AAct → AHeap → Prop} : cutP I K .ret a h = K .ret a h := Eq.trans rfl rfl
@[go_sem] theorem cutP_pan {I : AAct → AHeap → Prop} {v : AV} : cutP I K (.pan v) a h = K (.pan v) a h := Eq.trans rfl rfl
@[go_sem] theorem loopP_norm {I : Nat → AAct → AHeap → Prop} {n : Nat} : loopP I n K .norm a h = ∃ m, m < n ∧ I m a h := Eq.trans rfl rfl
@[go_sem] theorem loopP_exit {I : Nat → AAct → AHeap → Prop} {n i : Nat} : loopP I n K (.exit i) a h = K (.exit i) a h := Eq.trans rfl rfl
@[go_sem] theorem loopP_ret {I : Nat → AAct → AHeap → Prop} {n : Nat} : loopP I n K .ret a h = K .ret a h := Eq.trans rfl rfl
@[go_sem] theorem loopP_pan {I : Nat → AAct → AHeap → Prop} {n : Nat} {v : AV} : loopP I n K (.pan v) a h = K (.pan v) a h := Eq.trans rfl rfl
attribute [go_sem] resA loadA one Lv.val
end
attribute [go_sem] Int.tdiv_eq_ediv_of_nonneg Int.tmod_eq_emod_of_nonneg
def lenA : AV → Option Int
  | .slice _ _ len _ _ => some len
  | .nilSlice => some 0
  | _ => none
def lenR (h : AHeap) : Option Int → Option Res
  | some n => some (.v (.int .i64 n) h .free)
  | none => none
@[go_sem] theorem lenR_some {n : Int} : lenR h (some n) = some (.v (.int .i64 n) h .free) := Eq.trans rfl rfl
@[go_sem] theorem lenA_slice {b o l c : Nat} {e : Bool} : lenA (.slice b o l c e) = some (l : Int) := Eq.trans rfl rfl
@[go_sem] theorem lenA_nil : lenA .nilSlice = some 0 := Eq.trans rfl rfl
@[go_sem high] theorem evO_lenL {x : Opd} : evO a (.lenL x) h = lenR h (lenA (a.eval x)) := by
  simp only [evO, evOp]
  cases a.eval x <;> rfl
@[go_sem] theorem evO_mov {x : Opd} : evO a (.mov x) h = ( some (.v (a.eval x) h .free)) := Eq.trans rfl rfl
@[go_sem] theorem evO_pick {c : Opd} {x : Opd} {y : Opd} : evO a (.pick c x y) h = ( match a.eval c with | .bool b => some (.v (bif b then a.eval x else a.eval y) h .free) | _ => none) := Eq.trans rfl rfl
@[go_sem] theorem evO_new {md : Md} {zs : List AV} : evO a (.new md zs) h = ( some (.v (.ptr h.n 0) (h.alloc (.cells md 0 zs)) .new)) := Eq.trans rfl rfl
@[go_sem] theorem evO_box {x : Opd} : evO a (.box x) h = ( bif allFlat (a.eval x).cells then some (.v (.ptr h.n 0) (h.alloc (.cells .own 0 (a.eval x).cells)) .new) else none) := Eq.trans rfl rfl
@[go_sem] theorem evO_build {zs : List AV} {parts : List (Nat × Nat × Opd)} : evO a (.build zs parts) h = ( match fillA a.eval zs parts with | some cs => some (.v (.agg cs) h .free) | none => none) := Eq.trans rfl rfl
@[go_sem] theorem evO_bslice {es : Nat} {zs : List AV} {len : Nat} {parts : List (Nat × Nat × Opd)} : evO a (.bslice es zs len parts) h = ( match fillA a.eval zs parts with
    | some cs => bif allFlat cs then some (.v (.slice h.n 0 len len true) (h.alloc (.cells .own es cs)) .new) else none
    | none => none) := Eq.trans rfl rfl
@[go_sem] theorem evO_load {agg : Bool} {n : Nat} {x : Opd} : evO a (.load agg n x) h = ( match a.eval x with
    | .ptr b o => match h.get b with
      | some ⟨_, .cells _ _ vs⟩ =>
        bif agg then match row vs o n with | some cs => some (.v (.agg cs) h (.rd b)) | none => none
        else match vs[o]? with | some v => some (.v v h (.rd b)) | none => none
      | _ => none
    | _ => none) := Eq.trans rfl rfl
@[go_sem] theorem evO_store {n : Nat} {x : Opd} {y : Opd} : evO a (.store n x y) h = ( match a.eval x with
    | .ptr b o =>
            bif !((a.eval y).cells.length.beq n) || !allFlat (a.eval y).cells then none else
      match h.get b with
      | some ⟨ver, .cells md es vs⟩ => match md.mine, lay vs o (a.eval y).cells with
        | true, some vs' => some (.v undefA (h.upd b (ver + 1) (.cells md es vs')) (.wr b))
        | _, _ => none
      | _ => none
    | _ => none) := Eq.trans rfl rfl
@[go_sem] theorem evO_burn : evO a .burn h = ( some (.v undefA (h.alloc .dead) .big)) := Eq.trans rfl rfl
@[go_sem] theorem mine_own : Md.mine .own = true := Eq.trans rfl rfl
@[go_sem] theorem mine_tag {t : Nat} : Md.mine (.tag t) = true := Eq.trans rfl rfl
@[go_sem] theorem mine_ro : Md.mine .ro = false := Eq.trans rfl rfl
@[go_sem] theorem mine_sent : Md.mine .sent = false := Eq.trans rfl rfl
@[go_sem] theorem same_own : Md.same .own .own = true := Eq.trans rfl rfl
@[go_sem] theorem same_tag {s t : Nat} : Md.same (.tag s) (.tag t) = s.beq t := Eq.trans rfl rfl
@[go_sem] theorem same_ro {m : Md} : Md.same .ro m = false := by cases m <;> rfl
@[go_sem] theorem same_sent {m : Md} : Md.same .sent m = false := by cases m <;> rfl
@[go_sem] theorem evO_nilck {x : Opd} : evO a (.nilck x) h = ( match a.eval x with
    | .ptr b o => some (.v (.ptr b o) h .free)
    | .iface t v => some (.v (.iface t v) h .free)
    | _ => none) := Eq.trans rfl rfl
@[go_sem] theorem evO_bin {op : BinOp} {x : Opd} {y : Opd} : evO a (.bin op x y) h = ( match binA op (a.eval x) (a.eval y) with | some v => some (.v v h .free) | none => none) := Eq.trans rfl rfl
@[go_sem] theorem evO_eqv {neg : Bool} {t : KT} {x : Opd} {y : Opd} : evO a (.eqv neg t x y) h = ( match eqT t (a.eval x) (a.eval y) with | some b => some (.v (.bool (bif neg then !b else b)) h .free) | none => none) := Eq.trans rfl rfl
@[go_sem] theorem evO_un {op : UnOp} {x : Opd} : evO a (.un op x) h = ( match unA op (a.eval x) with | some v => some (.v v h .free) | none => none) := Eq.trans rfl rfl
@[go_sem] theorem evO_cvi {k : IntKind} {x : Opd} : evO a (.cvi k x) h = ( match a.eval x with | .int _ n => some (.v (.int k (wr k n)) h .free) | _ => none) := Eq.trans rfl rfl
@[go_sem] theorem evO_cvbs {x : Opd} : evO a (.cvbs x) h = ( match a.eval x with
    | .nilSlice => some (.v (.str []) h .free)
    | .slice b o len _ _ =>
      bif len.beq 0 then some (.v (.str []) h .free) else
      match h.get b with
      | some ⟨_, .cells _ _ vs⟩ => match row vs o len with
        | some cs => match bytesOf cs with | some s => some (.v (.str s) h (.rd b)) | none => none
        | none => none
      | _ => none
    | _ => none) := Eq.trans rfl rfl
@[go_sem] theorem evO_cvs {x : Opd} : evO a (.cvs x) h = ( match a.eval x with | .str s => some (.v (.str s) h .free) | _ => none) := Eq.trans rfl rfl
@[go_sem] theorem evO_mkif {t : TypeId} {x : Opd} : evO a (.mkif t x) h = ( some (.v (.iface t (a.eval x)) h .free)) := Eq.trans rfl rfl
@[go_sem] theorem evO_mkfn {fn : Fn} {fs : List Opd} {cs : List Opd} : evO a (.mkfn fn fs cs) h = ( some (.v (.func fn (fs.map a.eval) (cs.map a.eval)) h .free)) := Eq.trans rfl rfl
@[go_sem] theorem evO_mkmap  : evO a (.mkmap) h = ( some (.v (.map h.n) (h.alloc (.amap [])) .new)) := Eq.trans rfl rfl
@[go_sem] theorem evO_mkslice {es : Nat} {bytes : Nat} {zs : List AV} {l : Opd} {c : Opd} : evO a (.mkslice es bytes zs l c) h = ( match a.eval l, a.eval c with
    | .int _ l, .int _ c =>
      bif decide (0 ≤ l) && decide (l ≤ c) && decide (c ≤ (room : Int)) && decide (c * (bytes : Int) ≤ (room : Int)) then
        some (.v (.slice h.n 0 l.toNat c.toNat true) (h.alloc (.cells .own es (repl zs c.toNat))) .new)
      else none
    | _, _ => none) := Eq.trans rfl rfl
@[go_sem] theorem evO_slc {es : Nat} {x : Opd} {lo : Option Opd} {hi : Option Opd} {mx : Option Opd} : evO a (.slc es x lo hi mx) h = ( match a.eval x with
    | .nilSlice => match bnd (mx.map a.eval) 0 0 with
      | some m => match bnd (hi.map a.eval) 0 m with
        | some hh => match bnd (lo.map a.eval) 0 hh with | some _ => some (.v .nilSlice h .free) | none => none
        | none => none
      | none => none
    | .slice b o len cap ex => match bnd (mx.map a.eval) cap cap with
      | some m => match bnd (hi.map a.eval) len m with
        | some hh => match bnd (lo.map a.eval) 0 hh with
          | some l =>
            let ex' := ex || mx.isSome
            bif ex then some (.v (.slice b (bif m.beq l then o else o + l * es) (hh - l) (m - l) ex') h .free)
            else bif cap.beq 0 then none else bif m.beq l && mx.isSome then
              bif l.beq 0 then some (.v (.slice b o 0 0 true) h .free) else none
            else match h.get b with
              | some ⟨_, .cells _ es' _⟩ => bif es'.beq es then some (.v (.slice b (o + l * es) (hh - l) (m - l) ex') h (.rd b)) else none
              | _ => none
          | none => none
        | none => none
      | none => none
    | _ => none) := Eq.trans rfl rfl
@[go_sem] theorem evO_sls {x : Opd} {lo : Option Opd} {hi : Option Opd} : evO a (.sls x lo hi) h = ( match a.eval x with
    | .str s => match bnd (hi.map a.eval) s.length s.length with
      | some hh => match bnd (lo.map a.eval) 0 hh with
        | some l => some (.v (.str ((s.drop l).take (hh - l))) h .free)
        | none => none
      | none => none
    | _ => none) := Eq.trans rfl rfl
@[go_sem] theorem evO_faddr {off : Nat} {x : Opd} : evO a (.faddr off x) h = ( match a.eval x with | .ptr b o => some (.v (.ptr b (o + off)) h .free) | _ => none) := Eq.trans rfl rfl
@[go_sem] theorem evO_fld {agg : Bool} {off : Nat} {n : Nat} {x : Opd} : evO a (.fld agg off n x) h = ( match a.eval x with
    | .agg cs =>
      bif agg then match row cs off n with | some cs => some (.v (.agg cs) h .free) | none => none
      else match cs[off]? with | some v => some (.v v h .free) | none => none
    | _ => none) := Eq.trans rfl rfl
@[go_sem] theorem evO_iaddr {es : Nat} {x : Opd} {i : Opd} : evO a (.iaddr es x i) h = ( match a.eval x, a.eval i with
    | .slice b o len _ _, .int _ i => bif decide (0 ≤ i) && decide (i < (len : Int)) then some (.v (.ptr b (o + i.toNat * es)) h .free) else none
    | _, _ => none) := Eq.trans rfl rfl
@[go_sem] theorem evO_idxs {x : Opd} {i : Opd} : evO a (.idxs x i) h = ( match a.eval x, a.eval i with
    | .str s, .int _ i => bif decide (0 ≤ i) then match s[i.toNat]? with | some c => some (.v (.int .u8 c.toNat) h .free) | none => none else none
    | _, _ => none) := Eq.trans rfl rfl
@[go_sem] theorem evO_idxa {agg : Bool} {len : Nat} {n : Nat} {x : Opd} {i : Opd} : evO a (.idxa agg len n x i) h = ( match a.eval x, a.eval i with
    | .agg cs, .int _ i =>
      bif decide (0 ≤ i) && decide (i < (len : Int)) then
        bif agg then match row cs (i.toNat * n) n with | some cs => some (.v (.agg cs) h .free) | none => none
        else match cs[i.toNat * n]? with | some v => some (.v v h .free) | none => none
      else none
    | _, _ => none) := Eq.trans rfl rfl
@[go_sem] theorem evO_lookup {t : KT} {zero : AV} {m : Opd} {k : Opd} {ok : Bool} : evO a (.lookup t zero m k ok) h = ( bif !keyOk t (a.eval k) then none else match a.eval m with
    | .nilMap => some (.v (bif ok then .tuple [zero, .bool false] else zero) h .free)
    | .map r => match h.get r with
      | some ⟨_, .amap es⟩ => match findA t (a.eval k) es with
        | some (some v) => some (.v (bif ok then .tuple [v, .bool true] else v) h .big)
        | some none => some (.v (bif ok then .tuple [zero, .bool false] else zero) h .big)
        | none => none
      | _ => none
    | _ => none) := Eq.trans rfl rfl
@[go_sem] theorem evO_mapupd {t : KT} {m : Opd} {k : Opd} {v : Opd} : evO a (.mapupd t m k v) h = ( bif !keyOk t (a.eval k) then none else match a.eval m with
    | .map r => match h.get r with
      | some ⟨ver, .amap es⟩ => match setA t (a.eval k) (a.eval v) es with
        | some es' => some (.v undefA (h.upd r (ver + 1) (.amap es')) .big)
        | none => none
      | _ => none
    | _ => none) := Eq.trans rfl rfl
@[go_sem] theorem evO_tassert {to : TypeId} {zero : AV} {x : Opd} : evO a (.tassert to zero x) h = ( match a.eval x with
    | .nilIface => some (.v (.tuple [zero, .bool false]) h .free)
    | .iface t v => some (.v (bif t.beq to then .tuple [v, .bool true] else .tuple [zero, .bool false]) h .free)
    | _ => none) := Eq.trans rfl rfl
@[go_sem] theorem evO_ext {x : Opd} {i : Nat} : evO a (.ext x i) h = ( match a.eval x with
    | .tuple vs => match vs[i]? with | some v => some (.v v h .free) | none => none
    | _ => none) := Eq.trans rfl rfl
@[go_sem] theorem evO_lenS {x : Opd} : evO a (.lenS x) h = ( match a.eval x with
    | .str s => some (.v (.int .i64 s.length) h .free)
    | _ => none) := Eq.trans rfl rfl
@[go_sem] theorem evO_lenM {x : Opd} : evO a (.lenM x) h = ( match a.eval x with
    | .nilMap => some (.v (.int .i64 0) h .free)
    | .map r => match h.get r with | some ⟨_, .amap es⟩ => some (.v (.int .i64 es.length) h .big) | _ => none
    | _ => none) := Eq.trans rfl rfl
@[go_sem] theorem evO_append {md : Md} {es : Nat} {bytes : Nat} {s : Opd} {x : Opd} : evO a (.append md es bytes s x) h = ( match elems h es (a.eval x) with
    | some (n, new) => match appendA h md es bytes (a.eval s) n new with | some (v, h') => some (.v v h' .big) | none => none
    | none => none) := Eq.trans rfl rfl
@[go_sem] theorem evO_appendz {es : Nat} {bytes : Nat} {zs : List AV} {s : Opd} {x : Opd} : evO a (.appendz es bytes zs s x) h = ( match a.eval x with
    | .int .i64 n => bif decide (0 ≤ n) && decide (n ≤ (room : Int)) && decide (n * (bytes : Int) ≤ (room : Int)) then
        match appendA h .own es bytes (a.eval s) n.toNat (repl zs n.toNat) with | some (v, h') => some (.v v h' .big) | none => none
      else none
    | _ => none) := Eq.trans rfl rfl
@[go_sem] theorem evO_copy {es : Nat} {d : Opd} {s : Opd} : evO a (.copy es d s) h = ( match elems h es (a.eval s), a.eval d with
    | some (n, cs), .slice b o len _ _ =>
      bif (Nat.min n len).beq 0 then some (.v (.int .i64 0) h .big) else
      match h.get b with
      | some ⟨ver, .cells .own es' vs⟩ => bif !allFlat (cs.take (Nat.min n len * es)) then none else match lay vs o (cs.take (Nat.min n len * es)) with
        | some vs' => some (.v (.int .i64 (Nat.min n len)) (h.upd b (ver + 1) (.cells .own es' vs')) .big)
        | none => none
      | _ => none
    | some _, .nilSlice => some (.v (.int .i64 0) h .big)
    | _, _ => none) := Eq.trans rfl rfl
@[go_sem] theorem evO_mx {isMax : Bool} {x : Opd} {xs : List Opd} : evO a (.mx isMax x xs) h = ( match mxA isMax (a.eval x) (xs.map a.eval) with | some v => some (.v v h .free) | none => none) := Eq.trans rfl rfl
@[go_sem] theorem evO_iarr {len : Nat} {es : Nat} {x : Opd} {i : Opd} : evO a (.iarr len es x i) h = ( match a.eval x, a.eval i with
    | .ptr b o, .int _ i => bif decide (0 ≤ i) && decide (i < (len : Int)) then some (.v (.ptr b (o + i.toNat * es)) h .free) else none
    | _, _ => none) := Eq.trans rfl rfl
@[go_sem] theorem evO_slarr {len : Nat} {es : Nat} {x : Opd} {lo : Option Opd} {hi : Option Opd} {mx : Option Opd} : evO a (.slarr len es x lo hi mx) h = ( match a.eval x with
    | .ptr b o => match bnd (mx.map a.eval) len len with
      | some m => match bnd (hi.map a.eval) len m with
        | some hh => match bnd (lo.map a.eval) 0 hh with
          | some l => some (.v (.slice b (bif m.beq l then o else o + l * es) (hh - l) (m - l) true) h .free)
          | none => none
        | none => none
      | none => none
    | _ => none) := Eq.trans rfl rfl
@[go_sem] theorem evO_panic {x : Opd} : evO a (.panic x) h = ( match a.eval x with | .iface t v => some (.pan (.iface t v) h) | _ => none) := Eq.trans rfl rfl
@[go_sem] theorem evO_defer {f : Opd} : evO a (.defer f) h = ( match a.eval f with | .func (.func f) fs cs => some (.df f (fs ++ cs)) | _ => none) := Eq.trans rfl rfl
@[go_sem] theorem evO_recover  : evO a (.recover) h = ( none) := Eq.trans rfl rfl
attribute [go_sem] Int.cast_ofNat_Int
@[go_sem] theorem blt_nat {m n : Nat} : m.blt n = decide (m < n) := by
  show (m + 1).ble n = _
  rw [ble_nat]
  rfl
@[go_sem] theorem dec_le {m n : Nat} (h : m ≤ n) : decide (m ≤ n) = true := decide_eq_true h
@[go_sem] theorem dec_le_f {m n : Nat} (h : n < m) : decide (m ≤ n) = false := decide_eq_false (by omega)
@[go_sem] theorem dec_lt {m n : Nat} (h : m < n) : decide (m < n) = true := decide_eq_true h
@[go_sem] theorem dec_lt_f {m n : Nat} (h : n ≤ m) : decide (m < n) = false := decide_eq_false (by omega)
@[go_sem] theorem deci_le {m n : Int} (h : m ≤ n) : decide (m ≤ n) = true := decide_eq_true h
@[go_sem] theorem deci_lt {m n : Int} (h : m < n) : decide (m < n) = true := decide_eq_true h
attribute [go_sem] Tr.get_del
@[go_sem] theorem dels_nil {t : Tr AV} : dels [] t = t := Eq.trans rfl rfl
@[go_sem] theorem dels_st {i d b : Nat} {op : MOp} {g : Option (Nat × Bool)} {l : List (Nat × MOper)} {t : Tr AV} : dels ((i, ⟨some d, op, g, b⟩) :: l) t = dels l (t.del d) := Eq.trans rfl rfl
@[go_sem] theorem dels_no {i b : Nat} {op : MOp} {g : Option (Nat × Bool)} {l : List (Nat × MOper)} {t : Tr AV} : dels ((i, ⟨none, op, g, b⟩) :: l) t = dels l t := Eq.trans rfl rfl
attribute [go_sem]  elems AHeap.ver
attribute [go_sem] Tr.get_set Option.getD_some List.map_cons List.map_nil initTm calleeA MOp.isCall cond_true cond_false beq_true beq_false
end
attribute [irreducible] cutP wantP wantPD condP opP opPD callP callPD sqP blP loopP finP finLP defP defP0 kindP kindPD skipPD recPD wpOps wpD wpC WF WCall resP WDef
end Go.Ev
/- Short words for the operations of a printed table. -/
namespace Go.Ev
open Go

def oT (d : Nat) (op : MOp) : MOper := ⟨some d, op, none, 0⟩
def oN (op : MOp) : MOper := ⟨none, op, none, 0⟩
def oG (d g : Nat) (op : MOp) : MOper := ⟨some d, op, some (g, true), 0⟩
def oH (d g : Nat) (op : MOp) : MOper := ⟨some d, op, some (g, false), 0⟩
def oD (i d b : Nat) (op : MOp) : Nat × MOper := (i, ⟨some d, op, none, b⟩)
def oE (i b : Nat) (op : MOp) : Nat × MOper := (i, ⟨none, op, none, b⟩)
section
variable {F : FT} {a : AAct} {h : AHeap} {K : Post} {d g i b : Nat} {op : MOp} {r : List MOper} {all l : List (Nat × MOper)} {rs : List Rec} {pan : Option (Nat × AV)}
@[go_sem] theorem wpOps_oT : wpOps F (oT d op :: r) a h K = kindP F (wpOps F r) op.isCall (some d) op a h K := by
  show wpOps F (⟨some d, op, none, 0⟩ :: r) a h K = _
  rw [wpOps_cons, wanted_none, wantP_yes]
@[go_sem] theorem wpOps_oN : wpOps F (oN op :: r) a h K = kindP F (wpOps F r) op.isCall none op a h K := by
  show wpOps F (⟨none, op, none, 0⟩ :: r) a h K = _
  rw [wpOps_cons, wanted_none, wantP_yes]
@[go_sem] theorem wpOps_oG : wpOps F (oG d g op :: r) a h K = wantP F (wpOps F r) (wantedA a (some (g, true))) ⟨some d, op, some (g, true), 0⟩ a h K := wpOps_cons
@[go_sem] theorem wpOps_oH : wpOps F (oH d g op :: r) a h K = wantP F (wpOps F r) (wantedA a (some (g, false))) ⟨some d, op, some (g, false), 0⟩ a h K := wpOps_cons
@[go_sem] theorem wpD_oD : wpD F all (oD i d b op :: l) rs pan a h K = skipPD F (wpD F all l) (skipsD b pan) i ⟨some d, op, none, b⟩ a h rs pan K := wpD_cons
@[go_sem] theorem wpD_oE : wpD F all (oE i b op :: l) rs pan a h K = skipPD F (wpD F all l) (skipsD b pan) i ⟨none, op, none, b⟩ a h rs pan K := wpD_cons
@[go_sem] theorem dels_oD {t : Tr AV} : dels (oD i d b op :: l) t = dels l (t.del d) := Eq.trans rfl rfl
@[go_sem] theorem dels_oE {t : Tr AV} : dels (oE i b op :: l) t = dels l t := Eq.trans rfl rfl
end
section
variable {F : FT} {f f2 : AAct → AHeap → Post → Prop} {a : AAct} {h : AHeap} {K : Post} {o : MOper} {fd : List Rec → Option (Nat × AV) → AAct → AHeap → Post → Prop} {i : Nat} {rs : List Rec} {pan : Option (Nat × AV)} {c : Bool}
theorem kA (h1 : c = false → f a h K) (h2 : c = true → f2 a h K) : condP f f2 (.bool (!c)) a h K := condP_splitN h1 h2
theorem kB (h1 : c = false → wantP F f true o a h K) (h2 : c = true → wantP F f false o a h K) : wantP F f (!c) o a h K := wantP_splitN h1 h2
theorem kC (h1 : c = false → wantPD F fd true i o a h rs pan K) (h2 : c = true → wantPD F fd false i o a h rs pan K) : wantPD F fd (!c) i o a h rs pan K := wantPD_splitN h1 h2
theorem kD (h1 : c = true → f a h K) (h2 : c = false → f2 a h K) : condP f f2 (.bool c) a h K := condP_split h1 h2
theorem kE (h1 : c = true → wantP F f true o a h K) (h2 : c = false → wantP F f false o a h K) : wantP F f c o a h K := wantP_split h1 h2
theorem kF (h1 : c = true → wantPD F fd true i o a h rs pan K) (h2 : c = false → wantPD F fd false i o a h rs pan K) : wantPD F fd c i o a h rs pan K := wantPD_split h1 h2
end
/-- Lengths and sizes, for side conditions. -/
theorem hN : (∀ (h : AHeap) (o : AObj), (h.alloc o).n = h.n + 1) ∧ (∀ (h : AHeap) (b v : Nat) (o : AObj), (h.upd b v o).n = h.n) ∧ (∀ (x : AV) (l : List AV), (x :: l).length = l.length + 1) ∧ (([] : List AV).length = 0) ∧ (∀ l m : List AV, (l ++ m).length = l.length + m.length) ∧ (∀ (x : UInt8) (l : List UInt8), (x :: l).length = l.length + 1) ∧ (([] : List UInt8).length = 0) ∧ (∀ l m : List UInt8, (l ++ m).length = l.length + m.length) := ⟨fun _ _ => rfl, fun _ _ _ _ => rfl, fun _ _ => rfl, rfl, fun _ _ => List.length_append, fun _ _ => rfl, rfl, fun _ _ => List.length_append⟩
attribute [go_sem] beq_self_eq_true bne_self_eq_false
end Go.Ev
/- The evaluator once more, cut so that Lean's kernel reaches less at a time. -/
namespace Go.Ev
open Go

def nnK : Int → Bool
  | .ofNat _ => true
  | .negSucc _ => false
def inBK (i : Int) (len : Nat) : Bool := match i with
  | .ofNat m => Nat.blt m len
  | .negSucc _ => false
def leNK (i : Int) (n : Nat) : Bool := match i with
  | .ofNat m => Nat.ble m n
  | .negSucc _ => true
def ltIK : Int → Int → Bool
  | .ofNat a, .ofNat b => Nat.blt a b
  | .negSucc _, .ofNat _ => true
  | .ofNat _, .negSucc _ => false
  | .negSucc a, .negSucc b => Nat.blt b a
def leIK (a b : Int) : Bool := !ltIK b a
def eqIK : Int → Int → Bool
  | .ofNat a, .ofNat b => a.beq b
  | .negSucc a, .negSucc b => a.beq b
  | _, _ => false

theorem nnK_eq (i : Int) : nnK i = decide (0 ≤ i) := by
  cases i with
  | ofNat m => simp [nnK]
  | negSucc m => simp [nnK]
theorem inBK_eq (i : Int) (n : Nat) : inBK i n = (decide (0 ≤ i) && decide (i < (n : Int))) := by
  cases i with
  | ofNat m => simp only [inBK]; rw [Bool.eq_iff_iff]; simp [Nat.blt_eq]
  | negSucc m => simp [inBK]
theorem leNK_eq (i : Int) (n : Nat) : leNK i n = decide (i ≤ (n : Int)) := by
  cases i with
  | ofNat m => simp only [leNK]; rw [Bool.eq_iff_iff]; simp
  | negSucc m => simp only [leNK]; rw [Bool.eq_iff_iff]; simp; omega
theorem ltIK_eq (a b : Int) : ltIK a b = decide (a < b) := by
  cases a <;> cases b <;> simp only [ltIK] <;> rw [Bool.eq_iff_iff] <;> simp [Nat.blt_eq] <;> omega
theorem leIK_eq (a b : Int) : leIK a b = decide (a ≤ b) := by
  unfold leIK
  rw [ltIK_eq, Bool.eq_iff_iff]
  simp
theorem eqIK_eq (a b : Int) : eqIK a b = (a == b) := by
  cases a <;> cases b <;> simp only [eqIK] <;> rw [Bool.eq_iff_iff] <;> simp <;> omega

def fitsK : IntKind → Int → Bool
  | .i64, .ofNat m => Nat.ble m 9223372036854775807
  | .i64, .negSucc m => Nat.ble m 9223372036854775807
  | .u8, .ofNat m => Nat.ble m 255
  | .u64, .ofNat m => Nat.ble m 18446744073709551615
  | k, n => fits k n

theorem fitsK_eq (k : IntKind) (n : Int) : fitsK k n = fits k n := by
  unfold fitsK
  split
  · simp only [fits]; rw [Bool.eq_iff_iff]; simp; omega
  · simp only [fits]; rw [Bool.eq_iff_iff]; simp; omega
  · simp only [fits]; rw [Bool.eq_iff_iff]; simp; omega
  · simp only [fits]; rw [Bool.eq_iff_iff]; simp; omega
  · rfl

def wrK (k : IntKind) (n : Int) : Int := bif fitsK k n then n else k.wrap n
theorem wrK_eq (k : IntKind) (n : Int) : wrK k n = wr k n := by unfold wrK wr; rw [fitsK_eq]

def eqSK : List UInt8 → List UInt8 → Bool
  | [], [] => true
  | a :: r, b :: s => a.toNat.beq b.toNat && eqSK r s
  | _, _ => false

theorem eqSK_eq : ∀ (a b : List UInt8), eqSK a b = (a == b)
  | [], [] => rfl
  | [], _ :: _ => rfl
  | _ :: _, [] => rfl
  | a :: r, b :: s => by
    simp only [eqSK]
    rw [eqSK_eq r s]
    have : (a.toNat.beq b.toNat) = (a == b) := by
      rw [Bool.eq_iff_iff]
      simp [UInt8.toNat_inj]
    rw [this]
    rfl

def kindK : IntKind → IntKind → Bool
  | .i64, .i64 => true
  | .u8, .u8 => true
  | k, k' => decide (k = k')
theorem kindK_eq (k k' : IntKind) : kindK k k' = decide (k = k') := by
  unfold kindK
  split <;> simp

def intBinK (op : BinOp) (k : IntKind) (x y : Int) : Option AV :=
  match op with
  | .add => some (.int k (wrK k (x + y)))
  | .sub => some (.int k (wrK k (x - y)))
  | .eql => some (.bool (eqIK x y))
  | .neq => some (.bool (!eqIK x y))
  | .lss => some (.bool (ltIK x y))
  | .leq => some (.bool (leIK x y))
  | .gtr => some (.bool (ltIK y x))
  | .geq => some (.bool (leIK y x))
  | op => intBin op k x y
theorem intBinK_eq (op : BinOp) (k : IntKind) (x y : Int) : intBinK op k x y = intBin op k x y := by
  cases op <;> simp only [intBinK, intBin, wrK_eq, eqIK_eq, ltIK_eq, leIK_eq, GT.gt, GE.ge, bne]

def strBinK (op : BinOp) (x y : List UInt8) : Option AV :=
  match op with
  | .eql => some (.bool (eqSK x y))
  | .neq => some (.bool (!eqSK x y))
  | op => strBin op x y
theorem strBinK_eq (op : BinOp) (x y : List UInt8) : strBinK op x y = strBin op x y := by
  cases op <;> simp only [strBinK, strBin, eqSK_eq]

def binK (op : BinOp) (x y : AV) : Option AV :=
  match x, y with
  | .int k a, .int k' b =>
    match op with
    | .shl => shiftA op k a b
    | .shr => shiftA op k a b
    | op => bif kindK k k' then intBinK op k a b else none
  | .str a, .str b => strBinK op a b
  | _, _ => none
theorem binK_eq (op : BinOp) (x y : AV) : binK op x y = binA op x y := by
  cases x <;> cases y <;> first | rfl | (simp only [binK, binA, strBinK_eq]; done) | (simp only [binK, binA]; cases op <;> simp only [kindK_eq, intBinK_eq])



def gNil {α : Type} (_ : Nat) : Option α := none
def gNode {α : Type} (_ : Tr α) (v : Option α) (_ : Tr α) (ihl ihr : Nat → Option α) (n : Nat) : Option α := bif n.beq 0 then v else bif (Nat.mod n 2).beq 1 then ihl (Nat.div n 2) else ihr (Nat.sub (Nat.div n 2) 1)
noncomputable def getK {α : Type} (t : Tr α) : Nat → Option α := Tr.rec (motive := fun _ => Nat → Option α) gNil gNode t
theorem getK_eq' {α : Type} : ∀ (t : Tr α) (n : Nat), getK t n = t.get n
  | .nil, n => by simp only [Tr.get]; rfl
  | .node l v r, n => by
    show gNode l v r (getK l) (getK r) n = _
    unfold gNode
    rw [getK_eq' l, getK_eq' r]
    rfl
theorem getK_eq {α : Type} : @getK α = @Tr.get α := by funext t n; exact getK_eq' t n

def pZero {α : Type} (t : Tr α) (_ : Nat) : Tr α := t
def pNil {α : Type} (x : α) (ih : Tr α → Nat → Tr α) (n : Nat) : Tr α := bif n.beq 0 then .node .nil (some x) .nil else bif (Nat.mod n 2).beq 1 then .node (ih .nil (Nat.div n 2)) none .nil else .node .nil none (ih .nil (Nat.sub (Nat.div n 2) 1))
def pNode {α : Type} (x : α) (ih : Tr α → Nat → Tr α) (n : Nat) (l : Tr α) (v : Option α) (r : Tr α) : Tr α := bif n.beq 0 then .node l (some x) r else bif (Nat.mod n 2).beq 1 then .node (ih l (Nat.div n 2)) v r else .node l v (ih r (Nat.sub (Nat.div n 2) 1))
noncomputable def pSucc {α : Type} (x : α) (_ : Nat) (ih : Tr α → Nat → Tr α) (t : Tr α) (n : Nat) : Tr α := Tr.casesOn (motive := fun _ => Tr α) t (pNil x ih n) (pNode x ih n)
noncomputable def putK {α : Type} (x : α) (f : Nat) : Tr α → Nat → Tr α := Nat.rec (motive := fun _ => Tr α → Nat → Tr α) pZero (pSucc x) f
theorem putK_eq {α : Type} (x : α) : ∀ (f : Nat) (t : Tr α) (n : Nat), putK x f t n = Tr.put x f t n
  | 0, t, n => rfl
  | f + 1, .nil, n => by
    show pNil x (putK x f) n = _
    unfold pNil
    rw [putK_eq x f, putK_eq x f]
    rfl
  | f + 1, .node l v r, n => by
    show pNode x (putK x f) n l v r = _
    unfold pNode
    rw [putK_eq x f, putK_eq x f]
    rfl
noncomputable def setTK {α : Type} (t : Tr α) (n : Nat) (x : α) : Tr α := putK x (Nat.succ n) t n
theorem setTK_eq {α : Type} : @setTK α = @Tr.set α := by funext t n x; exact putK_eq x (n + 1) t n

noncomputable def evK (a : AAct) (x : Opd) : AV := Opd.rec (motive := fun _ => AV) (fun i => (getK a.tm i).getD undefA) (fun v => v) x
theorem evK_eq : evK = AAct.eval := by
  funext a x
  cases x with
  | t i => show (getK a.tm i).getD undefA = _; rw [getK_eq]; rfl
  | c v => rfl
noncomputable def hgK (h : AHeap) (b : Nat) : Option Blk := getK h.t b
theorem hgK_eq : hgK = AHeap.get := by funext h b; unfold hgK; rw [getK_eq]; rfl
noncomputable def alK (h : AHeap) (o : AObj) : AHeap := ⟨Nat.succ h.n, setTK h.t h.n ⟨0, o⟩⟩
theorem alK_eq : alK = AHeap.alloc := by funext h o; unfold alK; rw [setTK_eq]; rfl
noncomputable def upK (h : AHeap) (b ver : Nat) (o : AObj) : AHeap := ⟨h.n, setTK h.t b ⟨ver, o⟩⟩
theorem upK_eq : upK = AHeap.upd := by funext h b v o; unfold upK; rw [setTK_eq]; rfl

noncomputable def elemsK (h : AHeap) (es : Nat) (x : AV) : Option (Nat × List AV) :=
  match x with
  | .slice b o len _ _ =>
    bif len.beq 0 then some (0, []) else
    match hgK h b with
    | some ⟨_, .cells _ _ vs⟩ => match row vs o (len * es) with | some cs => some (len, cs) | none => none
    | _ => none
  | .nilSlice => some (0, [])
  | .str s => bif es.beq 1 then some (s.length, s.map fun c => .int .u8 c.toNat) else none
  | _ => none
theorem elemsK_eq : elemsK = elems := by
  funext h es x
  unfold elemsK
  rw [hgK_eq]
  cases x <;> rfl
noncomputable def appK (h : AHeap) (md : Md) (es bytes : Nat) (s : AV) (n : Nat) (new : List AV) : Option (AV × AHeap) :=
  bif !(new.length.beq (n * es)) || !allFlat new then none else
  match s with
  | .nilSlice =>
    bif n.beq 0 then some (.nilSlice, h) else
    bif n.ble room && (n * bytes).ble room then some (.slice h.n 0 n n false, alK h (.cells md es new)) else none
  | .slice b o len cap ex =>
    bif n.beq 0 then some (s, h) else
    match hgK h b with
    | some ⟨ver, .cells md' es' vs⟩ =>
      bif !(es'.beq es) then none else
      bif (len + n).ble cap then
        match md'.same md, lay vs (o + len * es) new with
        | true, some vs' => some (.slice b o (len + n) cap ex, upK h b (ver + 1) (.cells md es vs'))
        | _, _ => none
      else bif (len + n).ble room && ((len + n) * bytes).ble room then
        match row vs o (len * es) with
        | none => none
        | some old =>
          bif ex then some (.slice h.n 0 (len + n) (len + n) false, alK h (.cells md es (old ++ new)))
          else bif !(o.beq 0) || cap.beq 0 then none
          else match md'.same md with
            | true => some (.slice h.n 0 (len + n) (len + n) false, alK (upK h b (ver + 1) .dead) (.cells md es (old ++ new)))
            | false => none
      else none
    | _ => none
  | _ => none
theorem appK_eq : appK = appendA := by
  funext h md es bytes s n new
  unfold appK
  rw [hgK_eq, alK_eq, upK_eq]
  cases s <;> rfl

def unK (op : UnOp) (x : AV) : Option AV :=
  match op, x with
  | .not, .bool b => some (.bool !b)
  | op, x => unA op x
theorem unK_eq (op : UnOp) (x : AV) : unK op x = unA op x := by
  unfold unK
  split
  · rfl
  · rfl

def eqKK (t : CK) (x y : AV) : Option Bool :=
  match t, x, y with
  | .int, .int k a, .int k' b => bif kindK k k' then some (eqIK a b) else none
  | .str, .str a, .str b => some (eqSK a b)
  | t, x, y => eqK t x y
theorem eqKK_eq (t : CK) (x y : AV) : eqKK t x y = eqK t x y := by
  unfold eqKK
  split
  · simp only [eqK, kindK_eq, eqIK_eq]
  · simp only [eqK, eqSK_eq]
  · rfl

def eqKsK : List CK → List AV → List AV → Option Bool
  | [], [], [] => some true
  | t :: ts, x :: xs, y :: ys =>
    match eqKK t x y with
    | some true => eqKsK ts xs ys
    | some false => some false
    | none => none
  | _, _, _ => none
theorem eqKsK_eq : ∀ (ts : List CK) (xs ys : List AV), eqKsK ts xs ys = eqKs ts xs ys
  | [], [], [] => rfl
  | t :: ts, x :: xs, y :: ys => by
    simp only [eqKsK, eqKs, eqKK_eq, eqKsK_eq ts xs ys]
    rcases eqK t x y with _ | (_ | _) <;> rfl
  | [], [], _ :: _ => rfl
  | [], _ :: _, _ => rfl
  | _ :: _, [], _ => rfl
  | _ :: _, _ :: _, [] => rfl

def eqTK (t : KT) (x y : AV) : Option Bool :=
  match t, x, y with
  | .one k, x, y => eqKK k x y
  | .many ks, .agg xs, .agg ys => eqKsK ks xs ys
  | _, _, _ => none
theorem eqTK_eq (t : KT) (x y : AV) : eqTK t x y = eqT t x y := by
  cases t with
  | one k => exact eqKK_eq _ _ _
  | many ks => cases x <;> cases y <;> first | rfl | exact eqKsK_eq _ _ _

def bndK (x : Option AV) (dflt lim : Nat) : Option Nat :=
  match x with
  | none => some dflt
  | some (.int _ i) => bif nnK i && leNK i lim then some i.toNat else none
  | some _ => none
theorem bndK_eq (x : Option AV) (d l : Nat) : bndK x d l = bnd x d l := by
  cases x with
  | none => rfl
  | some v => cases v <;> first | rfl | (simp only [bndK, bnd, nnK_eq, leNK_eq])

noncomputable def k_mov (call : FuncId → List AV → AHeap → Option (CRes × AHeap)) (a : AAct) (h : AHeap) (x : Opd) : Option Res :=
  some (.v ((evK a) x) h .free)

noncomputable def k_pick (call : FuncId → List AV → AHeap → Option (CRes × AHeap)) (a : AAct) (h : AHeap) (c : Opd) (x : Opd) (y : Opd) : Option Res :=
  match (evK a) c with | .bool b => some (.v (bif b then (evK a) x else (evK a) y) h .free) | _ => none

noncomputable def k_new (call : FuncId → List AV → AHeap → Option (CRes × AHeap)) (a : AAct) (h : AHeap) (md : Md) (zs : List AV) : Option Res :=
  some (.v (.ptr h.n 0) (alK h (.cells md 0 zs)) .new)

noncomputable def k_box (call : FuncId → List AV → AHeap → Option (CRes × AHeap)) (a : AAct) (h : AHeap) (x : Opd) : Option Res :=
  bif allFlat ((evK a) x).cells then some (.v (.ptr h.n 0) (alK h (.cells .own 0 ((evK a) x).cells)) .new) else none

noncomputable def k_build (call : FuncId → List AV → AHeap → Option (CRes × AHeap)) (a : AAct) (h : AHeap) (zs : List AV) (parts : List (Nat × Nat × Opd)) : Option Res :=
  match fillA (evK a) zs parts with | some cs => some (.v (.agg cs) h .free) | none => none

noncomputable def k_bslice (call : FuncId → List AV → AHeap → Option (CRes × AHeap)) (a : AAct) (h : AHeap) (es : Nat) (zs : List AV) (len : Nat) (parts : List (Nat × Nat × Opd)) : Option Res :=
  match fillA (evK a) zs parts with
    | some cs => bif allFlat cs then some (.v (.slice h.n 0 len len true) (alK h (.cells .own es cs)) .new) else none
    | none => none

noncomputable def k_load (call : FuncId → List AV → AHeap → Option (CRes × AHeap)) (a : AAct) (h : AHeap) (agg : Bool) (n : Nat) (x : Opd) : Option Res :=
  match (evK a) x with
    | .ptr b o => match hgK h b with
      | some ⟨_, .cells _ _ vs⟩ =>
        bif agg then match row vs o n with | some cs => some (.v (.agg cs) h (.rd b)) | none => none
        else match vs[o]? with | some v => some (.v v h (.rd b)) | none => none
      | _ => none
    | _ => none

noncomputable def k_store (call : FuncId → List AV → AHeap → Option (CRes × AHeap)) (a : AAct) (h : AHeap) (n : Nat) (x : Opd) (y : Opd) : Option Res :=
  match (evK a) x with
    | .ptr b o =>
      let cs := ((evK a) y).cells
      bif !(cs.length.beq n) || !allFlat cs then none else
      match hgK h b with
      | some ⟨ver, .cells md es vs⟩ => match md.mine, lay vs o cs with
        | true, some vs' => some (.v undefA (upK h b (ver + 1) (.cells md es vs')) (.wr b))
        | _, _ => none
      | _ => none
    | _ => none

noncomputable def k_nilck (call : FuncId → List AV → AHeap → Option (CRes × AHeap)) (a : AAct) (h : AHeap) (x : Opd) : Option Res :=
  match (evK a) x with
    | .ptr b o => some (.v (.ptr b o) h .free)
    | .iface t v => some (.v (.iface t v) h .free)
    | _ => none

noncomputable def k_bin (call : FuncId → List AV → AHeap → Option (CRes × AHeap)) (a : AAct) (h : AHeap) (op : BinOp) (x : Opd) (y : Opd) : Option Res :=
  match binK op ((evK a) x) ((evK a) y) with | some v => some (.v v h .free) | none => none

noncomputable def k_eqv (call : FuncId → List AV → AHeap → Option (CRes × AHeap)) (a : AAct) (h : AHeap) (neg : Bool) (t : KT) (x : Opd) (y : Opd) : Option Res :=
  match eqTK t ((evK a) x) ((evK a) y) with | some b => some (.v (.bool (bif neg then !b else b)) h .free) | none => none

noncomputable def k_un (call : FuncId → List AV → AHeap → Option (CRes × AHeap)) (a : AAct) (h : AHeap) (op : UnOp) (x : Opd) : Option Res :=
  match unK op ((evK a) x) with | some v => some (.v v h .free) | none => none

noncomputable def k_cvi (call : FuncId → List AV → AHeap → Option (CRes × AHeap)) (a : AAct) (h : AHeap) (k : IntKind) (x : Opd) : Option Res :=
  match (evK a) x with | .int _ n => some (.v (.int k (wrK k n)) h .free) | _ => none

noncomputable def k_cvbs (call : FuncId → List AV → AHeap → Option (CRes × AHeap)) (a : AAct) (h : AHeap) (x : Opd) : Option Res :=
  match (evK a) x with
    | .nilSlice => some (.v (.str []) h .free)
    | .slice b o len _ _ =>
      bif len.beq 0 then some (.v (.str []) h .free) else
      match hgK h b with
      | some ⟨_, .cells _ _ vs⟩ => match row vs o len with
        | some cs => match bytesOf cs with | some s => some (.v (.str s) h (.rd b)) | none => none
        | none => none
      | _ => none
    | _ => none

noncomputable def k_cvs (call : FuncId → List AV → AHeap → Option (CRes × AHeap)) (a : AAct) (h : AHeap) (x : Opd) : Option Res :=
  match (evK a) x with | .str s => some (.v (.str s) h .free) | _ => none

noncomputable def k_mkif (call : FuncId → List AV → AHeap → Option (CRes × AHeap)) (a : AAct) (h : AHeap) (t : TypeId) (x : Opd) : Option Res :=
  some (.v (.iface t ((evK a) x)) h .free)

noncomputable def k_mkfn (call : FuncId → List AV → AHeap → Option (CRes × AHeap)) (a : AAct) (h : AHeap) (fn : Fn) (fs : List Opd) (cs : List Opd) : Option Res :=
  some (.v (.func fn (fs.map (evK a)) (cs.map (evK a))) h .free)

noncomputable def k_mkmap (call : FuncId → List AV → AHeap → Option (CRes × AHeap)) (a : AAct) (h : AHeap)  : Option Res :=
  some (.v (.map h.n) (alK h (.amap [])) .new)

noncomputable def k_mkslice (call : FuncId → List AV → AHeap → Option (CRes × AHeap)) (a : AAct) (h : AHeap) (es : Nat) (bytes : Nat) (zs : List AV) (l : Opd) (c : Opd) : Option Res :=
  match (evK a) l, (evK a) c with
    | .int _ l, .int _ c =>
      bif nnK l && leIK l c && leNK c room && decide (c * (bytes : Int) ≤ (room : Int)) then
        some (.v (.slice h.n 0 l.toNat c.toNat true) (alK h (.cells .own es (repl zs c.toNat))) .new)
      else none
    | _, _ => none

noncomputable def k_slc (call : FuncId → List AV → AHeap → Option (CRes × AHeap)) (a : AAct) (h : AHeap) (es : Nat) (x : Opd) (lo : Option Opd) (hi : Option Opd) (mx : Option Opd) : Option Res :=
  match (evK a) x with
    | .nilSlice => match bndK (mx.map (evK a)) 0 0 with
      | some m => match bndK (hi.map (evK a)) 0 m with
        | some hh => match bndK (lo.map (evK a)) 0 hh with | some _ => some (.v .nilSlice h .free) | none => none
        | none => none
      | none => none
    | .slice b o len cap ex => match bndK (mx.map (evK a)) cap cap with
      | some m => match bndK (hi.map (evK a)) len m with
        | some hh => match bndK (lo.map (evK a)) 0 hh with
          | some l =>
            let ex' := ex || mx.isSome
            bif ex then some (.v (.slice b (bif m.beq l then o else o + l * es) (hh - l) (m - l) ex') h .free)
            else bif cap.beq 0 then none else bif m.beq l && mx.isSome then
              bif l.beq 0 then some (.v (.slice b o 0 0 true) h .free) else none
            else match hgK h b with
              | some ⟨_, .cells _ es' _⟩ => bif es'.beq es then some (.v (.slice b (o + l * es) (hh - l) (m - l) ex') h (.rd b)) else none
              | _ => none
          | none => none
        | none => none
      | none => none
    | _ => none

noncomputable def k_sls (call : FuncId → List AV → AHeap → Option (CRes × AHeap)) (a : AAct) (h : AHeap) (x : Opd) (lo : Option Opd) (hi : Option Opd) : Option Res :=
  match (evK a) x with
    | .str s => match bndK (hi.map (evK a)) s.length s.length with
      | some hh => match bndK (lo.map (evK a)) 0 hh with
        | some l => some (.v (.str ((s.drop l).take (hh - l))) h .free)
        | none => none
      | none => none
    | _ => none

noncomputable def k_faddr (call : FuncId → List AV → AHeap → Option (CRes × AHeap)) (a : AAct) (h : AHeap) (off : Nat) (x : Opd) : Option Res :=
  match (evK a) x with | .ptr b o => some (.v (.ptr b (o + off)) h .free) | _ => none

noncomputable def k_fld (call : FuncId → List AV → AHeap → Option (CRes × AHeap)) (a : AAct) (h : AHeap) (agg : Bool) (off : Nat) (n : Nat) (x : Opd) : Option Res :=
  match (evK a) x with
    | .agg cs =>
      bif agg then match row cs off n with | some cs => some (.v (.agg cs) h .free) | none => none
      else match cs[off]? with | some v => some (.v v h .free) | none => none
    | _ => none

noncomputable def k_iaddr (call : FuncId → List AV → AHeap → Option (CRes × AHeap)) (a : AAct) (h : AHeap) (es : Nat) (x : Opd) (i : Opd) : Option Res :=
  match (evK a) x, (evK a) i with
    | .slice b o len _ _, .int _ i => bif inBK i len then some (.v (.ptr b (o + i.toNat * es)) h .free) else none
    | _, _ => none

noncomputable def k_idxs (call : FuncId → List AV → AHeap → Option (CRes × AHeap)) (a : AAct) (h : AHeap) (x : Opd) (i : Opd) : Option Res :=
  match (evK a) x, (evK a) i with
    | .str s, .int _ i => bif nnK i then match s[i.toNat]? with | some c => some (.v (.int .u8 c.toNat) h .free) | none => none else none
    | _, _ => none

noncomputable def k_idxa (call : FuncId → List AV → AHeap → Option (CRes × AHeap)) (a : AAct) (h : AHeap) (agg : Bool) (len : Nat) (n : Nat) (x : Opd) (i : Opd) : Option Res :=
  match (evK a) x, (evK a) i with
    | .agg cs, .int _ i =>
      bif inBK i len then
        bif agg then match row cs (i.toNat * n) n with | some cs => some (.v (.agg cs) h .free) | none => none
        else match cs[i.toNat * n]? with | some v => some (.v v h .free) | none => none
      else none
    | _, _ => none

noncomputable def k_lookup (call : FuncId → List AV → AHeap → Option (CRes × AHeap)) (a : AAct) (h : AHeap) (t : KT) (zero : AV) (m : Opd) (k : Opd) (ok : Bool) : Option Res :=
  bif !keyOk t ((evK a) k) then none else match (evK a) m with
    | .nilMap => some (.v (bif ok then .tuple [zero, .bool false] else zero) h .free)
    | .map r => match hgK h r with
      | some ⟨_, .amap es⟩ => match findA t ((evK a) k) es with
        | some (some v) => some (.v (bif ok then .tuple [v, .bool true] else v) h .big)
        | some none => some (.v (bif ok then .tuple [zero, .bool false] else zero) h .big)
        | none => none
      | _ => none
    | _ => none

noncomputable def k_mapupd (call : FuncId → List AV → AHeap → Option (CRes × AHeap)) (a : AAct) (h : AHeap) (t : KT) (m : Opd) (k : Opd) (v : Opd) : Option Res :=
  bif !keyOk t ((evK a) k) then none else match (evK a) m with
    | .map r => match hgK h r with
      | some ⟨ver, .amap es⟩ => match setA t ((evK a) k) ((evK a) v) es with
        | some es' => some (.v undefA (upK h r (ver + 1) (.amap es')) .big)
        | none => none
      | _ => none
    | _ => none

noncomputable def k_tassert (call : FuncId → List AV → AHeap → Option (CRes × AHeap)) (a : AAct) (h : AHeap) (to : TypeId) (zero : AV) (x : Opd) : Option Res :=
  match (evK a) x with
    | .nilIface => some (.v (.tuple [zero, .bool false]) h .free)
    | .iface t v => some (.v (bif t.beq to then .tuple [v, .bool true] else .tuple [zero, .bool false]) h .free)
    | _ => none

noncomputable def k_ext (call : FuncId → List AV → AHeap → Option (CRes × AHeap)) (a : AAct) (h : AHeap) (x : Opd) (i : Nat) : Option Res :=
  match (evK a) x with
    | .tuple vs => match vs[i]? with | some v => some (.v v h .free) | none => none
    | _ => none

noncomputable def k_call (call : FuncId → List AV → AHeap → Option (CRes × AHeap)) (a : AAct) (h : AHeap) (f : FuncId) (args : List Opd) : Option Res :=
  match call f (args.map (evK a)) h with
    | some (.ret v, h') => some (.v v h' .big)
    | some (.pan v, h') => some (.pan v h')
    | none => none

noncomputable def k_callv (call : FuncId → List AV → AHeap → Option (CRes × AHeap)) (a : AAct) (h : AHeap) (f : Opd) (args : List Opd) : Option Res :=
  match (evK a) f with
    | .func (.func f) fs cs => match call f (fs ++ (args.map (evK a) ++ cs)) h with
      | some (.ret v, h') => some (.v v h' .big)
      | some (.pan v, h') => some (.pan v h')
      | none => none
    | _ => none

noncomputable def k_lenS (call : FuncId → List AV → AHeap → Option (CRes × AHeap)) (a : AAct) (h : AHeap) (x : Opd) : Option Res :=
  match (evK a) x with
    | .str s => some (.v (.int .i64 s.length) h .free)
    | _ => none

noncomputable def k_lenL (call : FuncId → List AV → AHeap → Option (CRes × AHeap)) (a : AAct) (h : AHeap) (x : Opd) : Option Res :=
  match (evK a) x with
    | .slice _ _ len _ _ => some (.v (.int .i64 len) h .free)
    | .nilSlice => some (.v (.int .i64 0) h .free)
    | _ => none

noncomputable def k_lenM (call : FuncId → List AV → AHeap → Option (CRes × AHeap)) (a : AAct) (h : AHeap) (x : Opd) : Option Res :=
  match (evK a) x with
    | .nilMap => some (.v (.int .i64 0) h .free)
    | .map r => match hgK h r with | some ⟨_, .amap es⟩ => some (.v (.int .i64 es.length) h .big) | _ => none
    | _ => none

noncomputable def k_append (call : FuncId → List AV → AHeap → Option (CRes × AHeap)) (a : AAct) (h : AHeap) (md : Md) (es : Nat) (bytes : Nat) (s : Opd) (x : Opd) : Option Res :=
  match elemsK h es ((evK a) x) with
    | some (n, new) => match appK h md es bytes ((evK a) s) n new with | some (v, h') => some (.v v h' .big) | none => none
    | none => none

noncomputable def k_appendz (call : FuncId → List AV → AHeap → Option (CRes × AHeap)) (a : AAct) (h : AHeap) (es : Nat) (bytes : Nat) (zs : List AV) (s : Opd) (x : Opd) : Option Res :=
  match (evK a) x with
    | .int .i64 n => bif nnK n && leNK n room && decide (n * (bytes : Int) ≤ (room : Int)) then
        match appK h .own es bytes ((evK a) s) n.toNat (repl zs n.toNat) with | some (v, h') => some (.v v h' .big) | none => none
      else none
    | _ => none

noncomputable def k_copy (call : FuncId → List AV → AHeap → Option (CRes × AHeap)) (a : AAct) (h : AHeap) (es : Nat) (d : Opd) (s : Opd) : Option Res :=
  match elemsK h es ((evK a) s), (evK a) d with
    | some (n, cs), .slice b o len _ _ =>
      bif (Nat.min n len).beq 0 then some (.v (.int .i64 0) h .big) else
      match hgK h b with
      | some ⟨ver, .cells .own es' vs⟩ => bif !allFlat (cs.take (Nat.min n len * es)) then none else match lay vs o (cs.take (Nat.min n len * es)) with
        | some vs' => some (.v (.int .i64 (Nat.min n len)) (upK h b (ver + 1) (.cells .own es' vs')) .big)
        | none => none
      | _ => none
    | some _, .nilSlice => some (.v (.int .i64 0) h .big)
    | _, _ => none

noncomputable def k_mx (call : FuncId → List AV → AHeap → Option (CRes × AHeap)) (a : AAct) (h : AHeap) (isMax : Bool) (x : Opd) (xs : List Opd) : Option Res :=
  match mxA isMax ((evK a) x) (xs.map (evK a)) with | some v => some (.v v h .free) | none => none

noncomputable def k_iarr (call : FuncId → List AV → AHeap → Option (CRes × AHeap)) (a : AAct) (h : AHeap) (len : Nat) (es : Nat) (x : Opd) (i : Opd) : Option Res :=
  match (evK a) x, (evK a) i with
    | .ptr b o, .int _ i => bif inBK i len then some (.v (.ptr b (o + i.toNat * es)) h .free) else none
    | _, _ => none

noncomputable def k_slarr (call : FuncId → List AV → AHeap → Option (CRes × AHeap)) (a : AAct) (h : AHeap) (len : Nat) (es : Nat) (x : Opd) (lo : Option Opd) (hi : Option Opd) (mx : Option Opd) : Option Res :=
  match (evK a) x with
    | .ptr b o => match bndK (mx.map (evK a)) len len with
      | some m => match bndK (hi.map (evK a)) len m with
        | some hh => match bndK (lo.map (evK a)) 0 hh with
          | some l => some (.v (.slice b (bif m.beq l then o else o + l * es) (hh - l) (m - l) true) h .free)
          | none => none
        | none => none
      | none => none
    | _ => none

noncomputable def k_panic (call : FuncId → List AV → AHeap → Option (CRes × AHeap)) (a : AAct) (h : AHeap) (x : Opd) : Option Res :=
  match (evK a) x with | .iface t v => some (.pan (.iface t v) h) | _ => none

noncomputable def k_defer (call : FuncId → List AV → AHeap → Option (CRes × AHeap)) (a : AAct) (h : AHeap) (f : Opd) : Option Res :=
  match (evK a) f with | .func (.func f) fs cs => some (.df f (fs ++ cs)) | _ => none

noncomputable def k_recover (call : FuncId → List AV → AHeap → Option (CRes × AHeap)) (a : AAct) (h : AHeap)  : Option Res :=
  none


noncomputable def k_burn (call : FuncId → List AV → AHeap → Option (CRes × AHeap)) (a : AAct) (h : AHeap)  : Option Res :=
  some (.v undefA (alK h .dead) .big)

noncomputable def evOpK (call : FuncId → List AV → AHeap → Option (CRes × AHeap)) (a : AAct) (op : MOp) (h : AHeap) : Option Res :=
  match op with
  | .mov x0 => k_mov call a h x0
  | .pick x0 x1 x2 => k_pick call a h x0 x1 x2
  | .new x0 x1 => k_new call a h x0 x1
  | .box x0 => k_box call a h x0
  | .build x0 x1 => k_build call a h x0 x1
  | .bslice x0 x1 x2 x3 => k_bslice call a h x0 x1 x2 x3
  | .load x0 x1 x2 => k_load call a h x0 x1 x2
  | .store x0 x1 x2 => k_store call a h x0 x1 x2
  | .nilck x0 => k_nilck call a h x0
  | .bin x0 x1 x2 => k_bin call a h x0 x1 x2
  | .eqv x0 x1 x2 x3 => k_eqv call a h x0 x1 x2 x3
  | .un x0 x1 => k_un call a h x0 x1
  | .cvi x0 x1 => k_cvi call a h x0 x1
  | .cvbs x0 => k_cvbs call a h x0
  | .cvs x0 => k_cvs call a h x0
  | .mkif x0 x1 => k_mkif call a h x0 x1
  | .mkfn x0 x1 x2 => k_mkfn call a h x0 x1 x2
  | .mkmap => k_mkmap call a h
  | .mkslice x0 x1 x2 x3 x4 => k_mkslice call a h x0 x1 x2 x3 x4
  | .slc x0 x1 x2 x3 x4 => k_slc call a h x0 x1 x2 x3 x4
  | .sls x0 x1 x2 => k_sls call a h x0 x1 x2
  | .faddr x0 x1 => k_faddr call a h x0 x1
  | .fld x0 x1 x2 x3 => k_fld call a h x0 x1 x2 x3
  | .iaddr x0 x1 x2 => k_iaddr call a h x0 x1 x2
  | .idxs x0 x1 => k_idxs call a h x0 x1
  | .idxa x0 x1 x2 x3 x4 => k_idxa call a h x0 x1 x2 x3 x4
  | .lookup x0 x1 x2 x3 x4 => k_lookup call a h x0 x1 x2 x3 x4
  | .mapupd x0 x1 x2 x3 => k_mapupd call a h x0 x1 x2 x3
  | .tassert x0 x1 x2 => k_tassert call a h x0 x1 x2
  | .ext x0 x1 => k_ext call a h x0 x1
  | .call x0 x1 => k_call call a h x0 x1
  | .callv x0 x1 => k_callv call a h x0 x1
  | .lenS x0 => k_lenS call a h x0
  | .lenL x0 => k_lenL call a h x0
  | .lenM x0 => k_lenM call a h x0
  | .append x0 x1 x2 x3 x4 => k_append call a h x0 x1 x2 x3 x4
  | .appendz x0 x1 x2 x3 x4 => k_appendz call a h x0 x1 x2 x3 x4
  | .copy x0 x1 x2 => k_copy call a h x0 x1 x2
  | .mx x0 x1 x2 => k_mx call a h x0 x1 x2
  | .iarr x0 x1 x2 x3 => k_iarr call a h x0 x1 x2 x3
  | .slarr x0 x1 x2 x3 x4 x5 => k_slarr call a h x0 x1 x2 x3 x4 x5
  | .panic x0 => k_panic call a h x0
  | .defer x0 => k_defer call a h x0
  | .recover => k_recover call a h
  | .burn => k_burn call a h

theorem evOpK_eq' (call : FuncId → List AV → AHeap → Option (CRes × AHeap)) (a : AAct) (op : MOp) (h : AHeap) : evOpK call a op h = evOp call a op h := by
  cases op <;> simp only [evOpK, evOp]
  case bin => simp only [k_bin, binK_eq, evK_eq]; rfl
  case eqv => simp only [k_eqv, eqTK_eq, evK_eq]; rfl
  case un => simp only [k_un, unK_eq, evK_eq]; rfl
  case cvi => simp only [k_cvi, wrK_eq, evK_eq]; rfl
  case mkslice => simp only [k_mkslice, nnK_eq, leIK_eq, leNK_eq, evK_eq, alK_eq]; rfl
  case slc => simp only [k_slc, bndK_eq, evK_eq, hgK_eq]; rfl
  case sls => simp only [k_sls, bndK_eq, evK_eq]; rfl
  case iaddr => simp only [k_iaddr, inBK_eq, evK_eq]; rfl
  case idxs => simp only [k_idxs, nnK_eq, evK_eq]; rfl
  case idxa => simp only [k_idxa, inBK_eq, evK_eq]; rfl
  case appendz => simp only [k_appendz, nnK_eq, leNK_eq, evK_eq, appK_eq]; rfl
  case iarr => simp only [k_iarr, inBK_eq, evK_eq]; rfl
  case slarr => simp only [k_slarr, bndK_eq, evK_eq]; rfl
  case mov => simp only [k_mov, evK_eq]
  case pick => simp only [k_pick, evK_eq]; rfl
  case new => simp only [k_new, alK_eq]
  case box => simp only [k_box, evK_eq, alK_eq]
  case build => simp only [k_build, evK_eq]; rfl
  case bslice => simp only [k_bslice, evK_eq, alK_eq]; rfl
  case load => simp only [k_load, evK_eq, hgK_eq]; rfl
  case store => simp only [k_store, evK_eq, hgK_eq, upK_eq]; rfl
  case nilck => simp only [k_nilck, evK_eq]; rfl
  case cvbs => simp only [k_cvbs, evK_eq, hgK_eq]; rfl
  case cvs => simp only [k_cvs, evK_eq]; rfl
  case mkif => simp only [k_mkif, evK_eq]
  case mkfn => simp only [k_mkfn, evK_eq]
  case mkmap => simp only [k_mkmap, alK_eq]
  case faddr => simp only [k_faddr, evK_eq]; rfl
  case fld => simp only [k_fld, evK_eq]; rfl
  case lookup => simp only [k_lookup, evK_eq, hgK_eq]; rfl
  case mapupd => simp only [k_mapupd, evK_eq, hgK_eq, upK_eq]; rfl
  case tassert => simp only [k_tassert, evK_eq]; rfl
  case ext => simp only [k_ext, evK_eq]; rfl
  case call => simp only [k_call, evK_eq]; rfl
  case callv => simp only [k_callv, evK_eq]; rfl
  case lenS => simp only [k_lenS, evK_eq]; rfl
  case lenL => simp only [k_lenL, evK_eq]; rfl
  case lenM => simp only [k_lenM, evK_eq, hgK_eq]; rfl
  case append => simp only [k_append, evK_eq, elemsK_eq, appK_eq]; rfl
  case copy => simp only [k_copy, evK_eq, elemsK_eq, hgK_eq, upK_eq]; rfl
  case mx => simp only [k_mx, evK_eq]; rfl
  case panic => simp only [k_panic, evK_eq]; rfl
  case defer => simp only [k_defer, evK_eq]; rfl
  case burn => simp only [k_burn, alK_eq]
  all_goals rfl

theorem evOpK_eq : evOpK = evOp := by funext call a op h; exact evOpK_eq' call a op h

/-- The free ones among those met: nothing hangs on them. -/
def sameRec (rs qs : List Rec) : Prop := ∀ bef k hb ha, okWith bef k hb ha rs = okWith bef k hb ha qs

theorem sameRec.cons {rs qs : List Rec} (s : sameRec rs qs) (r : Rec) : sameRec (r :: rs) (r :: qs) := by
  intro bef k hb ha
  simp only [okWith, s bef k hb ha]

theorem sameRec.free {rs qs : List Rec} (s : sameRec rs qs) {r : Rec} (hr : r.k = .free) : sameRec rs (r :: qs) := by
  intro bef k hb ha
  simp only [okWith, s bef k hb ha, compat_free' hr, Bool.or_true, Bool.true_and]

end Go.Ev
/- A fast evaluator, by continuations: what each operation does. An answer 'true' tells that the weakest precondition holds. -/
namespace Go.Ev
open Go

/-! ### Values told apart -/
noncomputable def asBool (f : Bool → Bool) (v : AV) : Bool :=
  @AV.rec (fun _ => Bool) (fun _ => Bool) f (fun _ _ => false) (fun _ _ => false) (fun _ => false) (fun _ _ => false) false (fun _ _ _ _ _ => false) false (fun _ => false) false (fun _ _ _ _ _ => false) false (fun _ _ _ => false) false (fun _ _ => false) (fun _ _ => false) false (fun _ _ _ _ => false) v
noncomputable def asBoolD (f : Bool → Bool) (d : Bool) (v : AV) : Bool :=
  @AV.rec (fun _ => Bool) (fun _ => Bool) f (fun _ _ => d) (fun _ _ => d) (fun _ => d) (fun _ _ => d) d (fun _ _ _ _ _ => d) d (fun _ => d) d (fun _ _ _ _ _ => d) d (fun _ _ _ => d) d (fun _ _ => d) (fun _ _ => d) d (fun _ _ _ _ => d) v
noncomputable def asInt (f : IntKind → Int → Bool) (v : AV) : Bool :=
  @AV.rec (fun _ => Bool) (fun _ => Bool) (fun _ => false) f (fun _ _ => false) (fun _ => false) (fun _ _ => false) false (fun _ _ _ _ _ => false) false (fun _ => false) false (fun _ _ _ _ _ => false) false (fun _ _ _ => false) false (fun _ _ => false) (fun _ _ => false) false (fun _ _ _ _ => false) v
noncomputable def asStr (f : List UInt8 → Bool) (v : AV) : Bool :=
  @AV.rec (fun _ => Bool) (fun _ => Bool) (fun _ => false) (fun _ _ => false) (fun _ _ => false) f (fun _ _ => false) false (fun _ _ _ _ _ => false) false (fun _ => false) false (fun _ _ _ _ _ => false) false (fun _ _ _ => false) false (fun _ _ => false) (fun _ _ => false) false (fun _ _ _ _ => false) v
noncomputable def onIS (f : IntKind → Int → Bool) (g : List UInt8 → Bool) (v : AV) : Bool :=
  @AV.rec (fun _ => Bool) (fun _ => Bool) (fun _ => false) f (fun _ _ => false) g (fun _ _ => false) false (fun _ _ _ _ _ => false) false (fun _ => false) false (fun _ _ _ _ _ => false) false (fun _ _ _ => false) false (fun _ _ => false) (fun _ _ => false) false (fun _ _ _ _ => false) v
noncomputable def asPtr (f : Nat → Nat → Bool) (v : AV) : Bool :=
  @AV.rec (fun _ => Bool) (fun _ => Bool) (fun _ => false) (fun _ _ => false) (fun _ _ => false) (fun _ => false) f false (fun _ _ _ _ _ => false) false (fun _ => false) false (fun _ _ _ _ _ => false) false (fun _ _ _ => false) false (fun _ _ => false) (fun _ _ => false) false (fun _ _ _ _ => false) v
noncomputable def isNN (v : AV) : Bool :=
  @AV.rec (fun _ => Bool) (fun _ => Bool) (fun _ => false) (fun _ _ => false) (fun _ _ => false) (fun _ => false) (fun _ _ => true) false (fun _ _ _ _ _ => false) false (fun _ => false) false (fun _ _ _ _ _ => false) false (fun _ _ _ => true) false (fun _ _ => false) (fun _ _ => false) false (fun _ _ _ _ => false) v
noncomputable def asNil (K : Bool) (v : AV) : Bool := @Bool.rec (fun _ => Bool) false K (isNN v)
noncomputable def asSl (f : Nat → Nat → Nat → Nat → Bool → Bool) (g : Bool) (v : AV) : Bool :=
  @AV.rec (fun _ => Bool) (fun _ => Bool) (fun _ => false) (fun _ _ => false) (fun _ _ => false) (fun _ => false) (fun _ _ => false) false f g (fun _ => false) false (fun _ _ _ _ _ => false) false (fun _ _ _ => false) false (fun _ _ => false) (fun _ _ => false) false (fun _ _ _ _ => false) v
noncomputable def asFunc (f : Fn → List AV → List AV → Bool) (v : AV) : Bool :=
  @AV.rec (fun _ => Bool) (fun _ => Bool) (fun _ => false) (fun _ _ => false) (fun _ _ => false) (fun _ => false) (fun _ _ => false) false (fun _ _ _ _ _ => false) false (fun _ => false) false (fun g a b _ _ => f g a b) false (fun _ _ _ => false) false (fun _ _ => false) (fun _ _ => false) false (fun _ _ _ _ => false) v
noncomputable def asIf (f : TypeId → AV → Bool) (v : AV) : Bool :=
  @AV.rec (fun _ => Bool) (fun _ => Bool) (fun _ => false) (fun _ _ => false) (fun _ _ => false) (fun _ => false) (fun _ _ => false) false (fun _ _ _ _ _ => false) false (fun _ => false) false (fun _ _ _ _ _ => false) false (fun t x _ => f t x) false (fun _ _ => false) (fun _ _ => false) false (fun _ _ _ _ => false) v
noncomputable def asAgg (f : List AV → Bool) (v : AV) : Bool :=
  @AV.rec (fun _ => Bool) (fun _ => Bool) (fun _ => false) (fun _ _ => false) (fun _ _ => false) (fun _ => false) (fun _ _ => false) false (fun _ _ _ _ _ => false) false (fun _ => false) false (fun _ _ _ _ _ => false) false (fun _ _ _ => false) false (fun a _ => f a) (fun _ _ => false) false (fun _ _ _ _ => false) v
noncomputable def asTup (f : List AV → Bool) (v : AV) : Bool :=
  @AV.rec (fun _ => Bool) (fun _ => Bool) (fun _ => false) (fun _ _ => false) (fun _ _ => false) (fun _ => false) (fun _ _ => false) false (fun _ _ _ _ _ => false) false (fun _ => false) false (fun _ _ _ _ _ => false) false (fun _ _ _ => false) false (fun _ _ => false) (fun a _ => f a) false (fun _ _ _ _ => false) v
noncomputable def cellsQ (v : AV) : List AV :=
  @AV.rec (fun _ => List AV) (fun _ => List AV) (fun _ => [v]) (fun _ _ => [v]) (fun _ _ => [v]) (fun _ => [v]) (fun _ _ => [v]) [v] (fun _ _ _ _ _ => [v]) [v] (fun _ => [v]) [v] (fun _ _ _ _ _ => [v]) [v] (fun _ _ _ => [v]) [v] (fun a _ => a) (fun _ _ => [v]) [] (fun _ _ _ _ => []) v
noncomputable def flatQ (v : AV) : Bool :=
  @AV.rec (fun _ => Bool) (fun _ => Bool) (fun _ => true) (fun _ _ => true) (fun _ _ => true) (fun _ => true) (fun _ _ => true) true (fun _ _ _ _ _ => true) true (fun _ => true) true (fun _ _ _ _ _ => true) true (fun _ _ _ => true) true (fun _ _ => false) (fun _ _ => false) true (fun _ _ _ _ => true) v

noncomputable def ifB (c x y : Bool) : Bool := @Bool.rec (fun _ => Bool) y x c
theorem ifB_true {c x : Bool} (h : ifB c x false = true) : c = true ∧ x = true := by
  cases c
  · exact Bool.noConfusion (show false = true from h)
  · exact ⟨rfl, h⟩
theorem ifB_of {c x y : Bool} (h : ifB c x y = true) : (c = true ∧ x = true) ∨ (c = false ∧ y = true) := by
  cases c
  · exact .inr ⟨rfl, h⟩
  · exact .inl ⟨rfl, h⟩

theorem asBool_of {f : Bool → Bool} {v : AV} (h : asBool f v = true) : ∃ b, v = .bool b ∧ f b = true := by
  cases v with
  | bool b => exact ⟨b, rfl, h⟩
  | _ => exact Bool.noConfusion (show false = true from h)
theorem asBoolD_of {f : Bool → Bool} {d : Bool} {v : AV} (h : asBoolD f d v = true) : (∃ b, v = .bool b ∧ f b = true) ∨ ((∀ b, v ≠ .bool b) ∧ d = true) := by
  cases v with
  | bool b => exact .inl ⟨b, rfl, h⟩
  | _ => exact .inr ⟨(fun b q => by cases q), h⟩
theorem asInt_of {f : IntKind → Int → Bool} {v : AV} (h : asInt f v = true) : ∃ k n, v = .int k n ∧ f k n = true := by
  cases v with
  | int k n => exact ⟨k, n, rfl, h⟩
  | _ => exact Bool.noConfusion (show false = true from h)
theorem asStr_of {f : List UInt8 → Bool} {v : AV} (h : asStr f v = true) : ∃ s, v = .str s ∧ f s = true := by
  cases v with
  | str s => exact ⟨s, rfl, h⟩
  | _ => exact Bool.noConfusion (show false = true from h)
theorem onIS_of {f : IntKind → Int → Bool} {g : List UInt8 → Bool} {v : AV} (h : onIS f g v = true) : (∃ k n, v = .int k n ∧ f k n = true) ∨ ∃ s, v = .str s ∧ g s = true := by
  cases v with
  | int k n => exact .inl ⟨k, n, rfl, h⟩
  | str s => exact .inr ⟨s, rfl, h⟩
  | _ => exact Bool.noConfusion (show false = true from h)
theorem asPtr_of {f : Nat → Nat → Bool} {v : AV} (h : asPtr f v = true) : ∃ b o, v = .ptr b o ∧ f b o = true := by
  cases v with
  | ptr b o => exact ⟨b, o, rfl, h⟩
  | _ => exact Bool.noConfusion (show false = true from h)
theorem asNil_of {K : Bool} {v : AV} (h : asNil K v = true) : ((∃ b o, v = .ptr b o) ∨ ∃ t x, v = .iface t x) ∧ K = true := by
  cases v with
  | ptr b o => exact ⟨.inl ⟨b, o, rfl⟩, h⟩
  | iface t x => exact ⟨.inr ⟨t, x, rfl⟩, h⟩
  | _ => exact Bool.noConfusion (show false = true from h)
theorem asSl_of {f : Nat → Nat → Nat → Nat → Bool → Bool} {g : Bool} {v : AV} (h : asSl f g v = true) : (∃ b o l c x, v = .slice b o l c x ∧ f b o l c x = true) ∨ (v = .nilSlice ∧ g = true) := by
  cases v with
  | slice b o l c x => exact .inl ⟨b, o, l, c, x, rfl, h⟩
  | nilSlice => exact .inr ⟨rfl, h⟩
  | _ => exact Bool.noConfusion (show false = true from h)
theorem asFunc_of {f : Fn → List AV → List AV → Bool} {v : AV} (h : asFunc f v = true) : ∃ g a b, v = .func g a b ∧ f g a b = true := by
  cases v with
  | func g a b => exact ⟨g, a, b, rfl, h⟩
  | _ => exact Bool.noConfusion (show false = true from h)
theorem asIf_of {f : TypeId → AV → Bool} {v : AV} (h : asIf f v = true) : ∃ t x, v = .iface t x ∧ f t x = true := by
  cases v with
  | iface t x => exact ⟨t, x, rfl, h⟩
  | _ => exact Bool.noConfusion (show false = true from h)
theorem asAgg_of {f : List AV → Bool} {v : AV} (h : asAgg f v = true) : ∃ l, v = .agg l ∧ f l = true := by
  cases v with
  | agg l => exact ⟨l, rfl, h⟩
  | _ => exact Bool.noConfusion (show false = true from h)
theorem asTup_of {f : List AV → Bool} {v : AV} (h : asTup f v = true) : ∃ l, v = .tuple l ∧ f l = true := by
  cases v with
  | tuple l => exact ⟨l, rfl, h⟩
  | _ => exact Bool.noConfusion (show false = true from h)
theorem cellsQ_eq (v : AV) : cellsQ v = v.cells := by cases v <;> rfl
theorem flatQ_eq (v : AV) : flatQ v = v.flat := by cases v <;> rfl

/-! ### Lists -/
noncomputable def onNth (f : AV → Bool) (l : List AV) : Nat → Bool :=
  @List.rec AV (fun _ => Nat → Bool) (fun _ => false) (fun a _ ih n => @Nat.rec (fun _ => Bool) (f a) (fun m _ => ih m) n) l
theorem onNth_of {f : AV → Bool} : ∀ {l : List AV} {n : Nat}, onNth f l n = true → ∃ x, l[n]? = some x ∧ f x = true
  | [], n, h => Bool.noConfusion (show false = true from h)
  | a :: l, 0, h => ⟨a, rfl, h⟩
  | a :: l, n + 1, h => onNth_of (l := l) (n := n) h
noncomputable def nthV (l : List AV) : Nat → AV :=
  @List.rec AV (fun _ => Nat → AV) (fun _ => undefA) (fun a _ ih n => @Nat.rec (fun _ => AV) a (fun m _ => ih m) n) l
theorem nthV_eq : ∀ (l : List AV) (n : Nat), nthV l n = (l[n]?).getD undefA
  | [], n => rfl
  | a :: l, 0 => rfl
  | a :: l, n + 1 => nthV_eq l n
noncomputable def lenB (l : List UInt8) : Nat := @List.rec UInt8 (fun _ => Nat) (nat_lit 0) (fun _ _ ih => Nat.add ih (nat_lit 1)) l
theorem lenB_eq : ∀ l : List UInt8, lenB l = l.length
  | [] => rfl
  | a :: l => congrArg (· + 1) (lenB_eq l)
/-- A list's front taken off, and the next n of what is behind. -/
noncomputable def onDrop (f : List AV → Bool) (l : List AV) : Nat → Bool :=
  @List.rec AV (fun _ => Nat → Bool) (fun n => @Nat.rec (fun _ => Bool) (f []) (fun _ _ => false) n) (fun a t ih n => @Nat.rec (fun _ => Bool) (f (a :: t)) (fun m _ => ih m) n) l
theorem onDrop_of {f : List AV → Bool} : ∀ {l : List AV} {n : Nat}, onDrop f l n = true → n ≤ l.length ∧ f (l.drop n) = true
  | [], 0, h => ⟨Nat.le_refl _, h⟩
  | [], n + 1, h => Bool.noConfusion (show false = true from h)
  | a :: l, 0, h => ⟨Nat.zero_le _, h⟩
  | a :: l, n + 1, h => by
    obtain ⟨h1, h2⟩ := onDrop_of (l := l) (n := n) h
    exact ⟨by simp only [List.length_cons]; omega, by rw [List.drop_succ_cons]; exact h2⟩
noncomputable def onTake (l : List AV) : Nat → (List AV → Bool) → Bool :=
  @List.rec AV (fun _ => Nat → (List AV → Bool) → Bool) (fun n f => @Nat.rec (fun _ => Bool) (f []) (fun _ _ => false) n) (fun a _ ih n f => @Nat.rec (fun _ => Bool) (f []) (fun m _ => ih m (fun r => f (a :: r))) n) l
theorem onTake_of : ∀ {l : List AV} {n : Nat} {f : List AV → Bool}, onTake l n f = true → n ≤ l.length ∧ f (l.take n) = true
  | [], 0, f, h => ⟨Nat.le_refl _, h⟩
  | [], n + 1, f, h => Bool.noConfusion (show false = true from h)
  | a :: l, 0, f, h => ⟨Nat.zero_le _, h⟩
  | a :: l, n + 1, f, h => by
    obtain ⟨h1, h2⟩ := onTake_of (l := l) (n := n) h
    exact ⟨by simp only [List.length_cons]; omega, by rw [List.take_succ_cons]; exact h2⟩
noncomputable def onRow (l : List AV) (o n : Nat) (f : List AV → Bool) : Bool := onDrop (fun r => onTake r n f) l o
theorem onRow_of {l : List AV} {o n : Nat} {f : List AV → Bool} (h : onRow l o n f = true) : ∃ cs, row l o n = some cs ∧ f cs = true := by
  obtain ⟨h1, h2⟩ := onDrop_of h
  obtain ⟨h3, h4⟩ := onTake_of h2
  rw [List.length_drop] at h3
  refine ⟨_, ?_, h4⟩
  unfold row
  rw [show Nat.ble (o + n) l.length = true by rw [Nat.ble_eq]; omega]
  rfl
/-- Cells laid over a list. -/
noncomputable def onOver (cs : List AV) : List AV → (List AV → Bool) → Bool :=
  @List.rec AV (fun _ => List AV → (List AV → Bool) → Bool) (fun l f => f l) (fun c _ ih l => @List.rec AV (fun _ => (List AV → Bool) → Bool) (fun _ => false) (fun _ t _ f => ih t (fun r => f (c :: r))) l) cs
theorem onOver_of : ∀ {cs l : List AV} {f : List AV → Bool}, onOver cs l f = true → cs.length ≤ l.length ∧ f (cs ++ l.drop cs.length) = true
  | [], l, f, h => ⟨Nat.zero_le _, h⟩
  | c :: cs, [], f, h => Bool.noConfusion (show false = true from h)
  | c :: cs, a :: l, f, h => by
    obtain ⟨h1, h2⟩ := onOver_of (cs := cs) (l := l) (f := fun r => f (c :: r)) h
    exact ⟨by simp only [List.length_cons]; omega, h2⟩
noncomputable def onLay (l : List AV) : Nat → List AV → (List AV → Bool) → Bool :=
  @List.rec AV (fun _ => Nat → List AV → (List AV → Bool) → Bool) (fun n cs f => @Nat.rec (fun _ => Bool) (onOver cs [] f) (fun _ _ => false) n) (fun a t ih n cs f => @Nat.rec (fun _ => Bool) (onOver cs (a :: t) f) (fun m _ => ih m cs (fun r => f (a :: r))) n) l
theorem onLay_of : ∀ {l : List AV} {o : Nat} {cs : List AV} {f : List AV → Bool}, onLay l o cs f = true → ∃ r, lay l o cs = some r ∧ f r = true := by
  have key : ∀ {l : List AV} {o : Nat} {cs : List AV} {f : List AV → Bool}, onLay l o cs f = true → o + cs.length ≤ l.length ∧ f (l.take o ++ (cs ++ l.drop (o + cs.length))) = true := by
    intro l
    induction l with
    | nil =>
      intro o cs f h
      cases o with
      | zero =>
        obtain ⟨h1, h2⟩ := onOver_of (cs := cs) (l := []) (f := f) h
        exact ⟨by omega, by rw [Nat.zero_add]; exact h2⟩
      | succ o => exact Bool.noConfusion (show false = true from h)
    | cons a l ih =>
      intro o cs f h
      cases o with
      | zero =>
        obtain ⟨h1, h2⟩ := onOver_of (cs := cs) (l := a :: l) (f := f) h
        exact ⟨by omega, by rw [Nat.zero_add]; exact h2⟩
      | succ o =>
        obtain ⟨h1, h2⟩ := ih (o := o) (cs := cs) (f := fun r => f (a :: r)) h
        refine ⟨by simp only [List.length_cons]; omega, ?_⟩
        rw [show o + 1 + cs.length = (o + cs.length) + 1 by omega, List.take_succ_cons, List.drop_succ_cons]
        exact h2
  intro l o cs f h
  obtain ⟨h1, h2⟩ := key h
  refine ⟨_, ?_, h2⟩
  unfold lay
  rw [show Nat.ble (o + cs.length) l.length = true by rw [Nat.ble_eq]; omega]
  rfl
noncomputable def flatsQ (l : List AV) : Bool := @List.rec AV (fun _ => Bool) true (fun a _ ih => ifB (flatQ a) ih false) l
theorem flatsQ_eq : ∀ l, flatsQ l = allFlat l
  | [] => rfl
  | a :: l => by
    show ifB (flatQ a) (flatsQ l) false = _
    rw [flatsQ_eq l, flatQ_eq]
    simp only [allFlat, List.all_cons]
    cases a.flat <;> rfl
noncomputable def lenV (l : List AV) : Nat := @List.rec AV (fun _ => Nat) (nat_lit 0) (fun _ _ ih => Nat.add ih (nat_lit 1)) l
theorem lenV_eq : ∀ l : List AV, lenV l = l.length
  | [] => rfl
  | a :: l => congrArg (· + 1) (lenV_eq l)
noncomputable def eqSQ (l : List UInt8) : List UInt8 → Bool :=
  @List.rec UInt8 (fun _ => List UInt8 → Bool) (fun s => @List.rec UInt8 (fun _ => Bool) true (fun _ _ _ => false) s) (fun a _ ih s => @List.rec UInt8 (fun _ => Bool) false (fun b t _ => ifB (Nat.beq a.toNat b.toNat) (ih t) false) s) l
theorem eqSQ_eq : ∀ (a b : List UInt8), eqSQ a b = (a == b)
  | [], [] => rfl
  | [], _ :: _ => rfl
  | _ :: _, [] => rfl
  | a :: r, b :: s => by
    show ifB (Nat.beq a.toNat b.toNat) (eqSQ r s) false = _
    rw [eqSQ_eq r s]
    have : (Nat.beq a.toNat b.toNat) = (a == b) := by
      rw [Bool.eq_iff_iff]
      simp [UInt8.toNat_inj]
    rw [this]
    simp only [List.cons_beq_cons]
    cases (a == b) <;> rfl

/-! ### The heap -/
/-- The way to a place of a tree. -/
inductive Pth where
  | e
  | l (p : Pth)
  | r (p : Pth)
noncomputable def pathF (f : Nat) : Nat → Pth :=
  @Nat.rec (fun _ => Nat → Pth) (fun _ => .e) (fun _ ih m => @Bool.rec (fun _ => Pth) (@Bool.rec (fun _ => Pth) (.r (ih (Nat.sub (Nat.div m (nat_lit 2)) (nat_lit 1)))) (.l (ih (Nat.div m (nat_lit 2)))) (Nat.beq (Nat.mod m (nat_lit 2)) (nat_lit 1))) .e (Nat.beq m (nat_lit 0))) f
noncomputable def pathQ (n : Nat) : Pth := pathF (Nat.add n (nat_lit 1)) n
theorem pathF_zero (f : Nat) : pathF (f + 1) 0 = .e := rfl
theorem pathF_odd {f n : Nat} (h0 : n ≠ 0) (h1 : n % 2 = 1) : pathF (f + 1) n = .l (pathF f (n / 2)) := by
  show @Bool.rec (fun _ => Pth) (@Bool.rec (fun _ => Pth) _ _ (Nat.beq (n % 2) 1)) _ (Nat.beq n 0) = _
  rw [beqF h0, h1]
  rfl
theorem pathF_even {f n : Nat} (h0 : n ≠ 0) (h1 : n % 2 ≠ 1) : pathF (f + 1) n = .r (pathF f (n / 2 - 1)) := by
  show @Bool.rec (fun _ => Pth) (@Bool.rec (fun _ => Pth) _ _ (Nat.beq (n % 2) 1)) _ (Nat.beq n 0) = _
  rw [beqF h0, beqF h1]
  rfl
noncomputable def getP (p : Pth) : Tr Blk → Option Blk :=
  @Pth.rec (fun _ => Tr Blk → Option Blk) (fun t => @Tr.rec Blk (fun _ => Option Blk) none (fun _ v _ _ _ => v) t) (fun _ ih t => @Tr.rec Blk (fun _ => Option Blk) none (fun l _ _ _ _ => ih l) t) (fun _ ih t => @Tr.rec Blk (fun _ => Option Blk) none (fun _ _ r _ _ => ih r) t) p
noncomputable def putP (x : Blk) (p : Pth) : Tr Blk → Tr Blk :=
  @Pth.rec (fun _ => Tr Blk → Tr Blk) (fun t => @Tr.rec Blk (fun _ => Tr Blk) (.node .nil (some x) .nil) (fun l _ r _ _ => .node l (some x) r) t) (fun _ ih t => @Tr.rec Blk (fun _ => Tr Blk) (.node (ih .nil) none .nil) (fun l v r _ _ => .node (ih l) v r) t) (fun _ ih t => @Tr.rec Blk (fun _ => Tr Blk) (.node .nil none (ih .nil)) (fun l v r _ _ => .node l v (ih r)) t) p
theorem getP_eq : ∀ (f n : Nat) (t : Tr Blk), n < f → getP (pathF f n) t = t.get n
  | 0, n, t, h => by omega
  | f + 1, n, t, h => by
    by_cases h0 : n = 0
    · subst h0
      rw [pathF_zero]
      cases t <;> rfl
    · by_cases h1 : n % 2 = 1
      · rw [pathF_odd h0 h1]
        cases t with
        | nil => rfl
        | node l v r =>
          show getP (pathF f (n / 2)) l = _
          rw [getP_eq f (n / 2) l (by omega)]
          conv => rhs; unfold Tr.get
          rw [beqF h0, beqT h1]
          rfl
      · rw [pathF_even h0 h1]
        cases t with
        | nil => rfl
        | node l v r =>
          show getP (pathF f (n / 2 - 1)) r = _
          rw [getP_eq f (n / 2 - 1) r (by omega)]
          conv => rhs; unfold Tr.get
          rw [beqF h0, beqF h1]
          rfl
theorem putP_eq (x : Blk) : ∀ (f n : Nat) (t : Tr Blk), n < f → putP x (pathF f n) t = Tr.put x f t n
  | 0, n, t, h => by omega
  | f + 1, n, t, h => by
    by_cases h0 : n = 0
    · subst h0
      rw [pathF_zero]
      cases t <;> rfl
    · by_cases h1 : n % 2 = 1
      · rw [pathF_odd h0 h1]
        cases t with
        | nil =>
          show Tr.node (putP x (pathF f (n / 2)) .nil) none .nil = _
          rw [putP_eq x f (n / 2) _ (by omega)]
          conv => rhs; unfold Tr.put
          rw [beqF h0, beqT h1]
          rfl
        | node l v r =>
          show Tr.node (putP x (pathF f (n / 2)) l) v r = _
          rw [putP_eq x f (n / 2) _ (by omega)]
          conv => rhs; unfold Tr.put
          rw [beqF h0, beqT h1]
          rfl
      · rw [pathF_even h0 h1]
        cases t with
        | nil =>
          show Tr.node .nil none (putP x (pathF f (n / 2 - 1)) .nil) = _
          rw [putP_eq x f (n / 2 - 1) _ (by omega)]
          conv => rhs; unfold Tr.put
          rw [beqF h0, beqF h1]
          rfl
        | node l v r =>
          show Tr.node l v (putP x (pathF f (n / 2 - 1)) r) = _
          rw [putP_eq x f (n / 2 - 1) _ (by omega)]
          conv => rhs; unfold Tr.put
          rw [beqF h0, beqF h1]
          rfl
noncomputable def getQ (t : Tr Blk) (n : Nat) : Option Blk := getP (pathQ n) t
theorem getQ_eq (t : Tr Blk) (n : Nat) : getQ t n = t.get n := getP_eq (n + 1) n t (by omega)
noncomputable def alQ (h : AHeap) (o : AObj) : AHeap := ⟨Nat.add h.n (nat_lit 1), putP ⟨nat_lit 0, o⟩ (pathQ h.n) h.t⟩
theorem alQ_eq (h : AHeap) (o : AObj) : alQ h o = h.alloc o := by
  unfold alQ AHeap.alloc Tr.set
  rw [show putP ⟨0, o⟩ (pathQ h.n) h.t = Tr.put ⟨0, o⟩ (h.n + 1) h.t h.n from putP_eq _ (h.n + 1) h.n h.t (by omega)]
noncomputable def upQ (h : AHeap) (b ver : Nat) (o : AObj) : AHeap := ⟨h.n, putP ⟨ver, o⟩ (pathQ b) h.t⟩
theorem upQ_eq (h : AHeap) (b ver : Nat) (o : AObj) : upQ h b ver o = h.upd b ver o := by
  unfold upQ AHeap.upd Tr.set
  rw [show putP ⟨ver, o⟩ (pathQ b) h.t = Tr.put ⟨ver, o⟩ (b + 1) h.t b from putP_eq _ (b + 1) b h.t (by omega)]
noncomputable def onCells (f : Nat → Md → Nat → List AV → Bool) (h : AHeap) (b : Nat) : Bool :=
  @Option.rec Blk (fun _ => Bool) false (fun x => @Blk.rec (fun _ => Bool) (fun ver o => @AObj.rec (fun _ => Bool) (f ver) (fun _ => false) false o) x) (getQ h.t b)
theorem onCells_of {f : Nat → Md → Nat → List AV → Bool} {h : AHeap} {b : Nat} (e : onCells f h b = true) : ∃ ver md es vs, h.get b = some ⟨ver, .cells md es vs⟩ ∧ f ver md es vs = true := by
  unfold onCells at e
  rw [getQ_eq] at e
  unfold AHeap.get
  cases g : h.t.get b with
  | none => rw [g] at e; exact Bool.noConfusion (show false = true from e)
  | some x =>
    rw [g] at e
    obtain ⟨ver, o⟩ := x
    cases o with
    | cells md es vs => exact ⟨ver, md, es, vs, rfl, e⟩
    | _ => exact Bool.noConfusion (show false = true from e)
noncomputable def isOwn (md : Md) : Bool := @Md.rec (fun _ => Bool) true false false (fun _ => false) md
noncomputable def mineQ (md : Md) : Bool := @Md.rec (fun _ => Bool) true false false (fun _ => true) md
theorem mineQ_of {md : Md} (h : mineQ md = true) : md.mine = true := by cases md <;> first | rfl | exact Bool.noConfusion (show false = true from h)
noncomputable def sameQ (md' md : Md) : Bool := @Md.rec (fun _ => Bool) (isOwn md) false false (fun t => @Md.rec (fun _ => Bool) false false false (fun u => Nat.beq t u) md) md'
theorem sameQ_of {md' md : Md} (h : sameQ md' md = true) : md' = md := by
  cases md' <;> cases md <;> first | rfl | exact Bool.noConfusion (show false = true from h) | exact congrArg Md.tag (Nat.eq_of_beq_eq_true h)
theorem mdsame_refl {md : Md} (h : md.mine = true) : md.same md = true := by cases md <;> first | rfl | exact Nat.beq_refl _ | cases h
/-! ### Operations -/
noncomputable def kIx (k : IntKind) : Nat := @IntKind.rec (fun _ => Nat) (nat_lit 0) (nat_lit 1) (nat_lit 2) (nat_lit 3) (nat_lit 4) (nat_lit 5) (nat_lit 6) (nat_lit 7) k
theorem kIx_inj {k k' : IntKind} (h : Nat.beq (kIx k) (kIx k') = true) : k = k' := by
  cases k <;> cases k' <;> first | rfl | exact Bool.noConfusion (show false = true from h)

noncomputable def fiAdd (k : IntKind) (a b : Int) : AV := .int k (wrK k (a + b))
noncomputable def fiSub (k : IntKind) (a b : Int) : AV := .int k (wrK k (a - b))
noncomputable def fiNeq (_ : IntKind) (a b : Int) : AV := .bool (!eqIK a b)
noncomputable def fiLss (_ : IntKind) (a b : Int) : AV := .bool (ltIK a b)
noncomputable def fiLeq (_ : IntKind) (a b : Int) : AV := .bool (leIK a b)
noncomputable def fiGtr (_ : IntKind) (a b : Int) : AV := .bool (ltIK b a)
noncomputable def fiGeq (_ : IntKind) (a b : Int) : AV := .bool (leIK b a)
noncomputable def onSome (K : AV → Bool) (x : Option AV) : Bool := @Option.rec AV (fun _ => Bool) false K x
theorem onSome_of {K : AV → Bool} {x : Option AV} (h : onSome K x = true) : ∃ v, x = some v ∧ K v = true := by
  cases x with
  | none => exact Bool.noConfusion (show false = true from h)
  | some v => exact ⟨v, rfl, h⟩
noncomputable def p_bin (op : BinOp) (fi : IntKind → Int → Int → AV) (v w : AV) (K : AV → Bool) : Bool :=
  onIS (fun k a => asInt (fun k' b => ifB (Nat.beq (kIx k) (kIx k')) (K (fi k a b)) false) w) (fun _ => onSome K (binK op v w)) v
def FiOk (op : BinOp) (fi : IntKind → Int → Int → AV) : Prop := ∀ k a b, binA op (.int k a) (.int k b) = some (fi k a b)
theorem p_bin_of {op : BinOp} {fi : IntKind → Int → Int → AV} (hf : FiOk op fi) {v w : AV} {K : AV → Bool} (h : p_bin op fi v w K = true) : ∃ r, binA op v w = some r ∧ K r = true := by
  rcases onIS_of h with ⟨k, a, rfl, h⟩ | ⟨s, rfl, h⟩
  · obtain ⟨k', b, rfl, h⟩ := asInt_of h
    obtain ⟨h1, h2⟩ := ifB_true h
    obtain rfl := kIx_inj h1
    exact ⟨_, hf _ _ _, h2⟩
  · obtain ⟨r, h1, h2⟩ := onSome_of h
    rw [binK_eq] at h1
    exact ⟨r, h1, h2⟩
noncomputable def p_eq (v w : AV) (K : AV → Bool) : Bool :=
  onIS (fun k a => asInt (fun k' b => ifB (Nat.beq (kIx k) (kIx k')) (K (.bool (eqIK a b))) false) w) (fun s => asStr (fun t => K (.bool (eqSQ s t))) w) v
theorem p_eq_of {v w : AV} {K : AV → Bool} (h : p_eq v w K = true) : ∃ r, binA .eql v w = some r ∧ K r = true := by
  rcases onIS_of h with ⟨k, a, rfl, h⟩ | ⟨s, rfl, h⟩
  · obtain ⟨k', b, rfl, h⟩ := asInt_of h
    obtain ⟨h1, h2⟩ := ifB_true h
    obtain rfl := kIx_inj h1
    refine ⟨_, ?_, h2⟩
    rw [← binK_eq]
    simp only [binK, kindK_eq, decide_true, cond_true, intBinK]
  · obtain ⟨t, rfl, h⟩ := asStr_of h
    refine ⟨_, ?_, h⟩
    simp only [binA, strBin, eqSQ_eq]
theorem fiAdd_ok : FiOk .add fiAdd := fun k a b => by rw [← binK_eq]; simp only [binK, kindK_eq, decide_true, cond_true, intBinK, fiAdd]
theorem fiSub_ok : FiOk .sub fiSub := fun k a b => by rw [← binK_eq]; simp only [binK, kindK_eq, decide_true, cond_true, intBinK, fiSub]
theorem fiNeq_ok : FiOk .neq fiNeq := fun k a b => by rw [← binK_eq]; simp only [binK, kindK_eq, decide_true, cond_true, intBinK, fiNeq]
theorem fiLss_ok : FiOk .lss fiLss := fun k a b => by rw [← binK_eq]; simp only [binK, kindK_eq, decide_true, cond_true, intBinK, fiLss]
theorem fiLeq_ok : FiOk .leq fiLeq := fun k a b => by rw [← binK_eq]; simp only [binK, kindK_eq, decide_true, cond_true, intBinK, fiLeq]
theorem fiGtr_ok : FiOk .gtr fiGtr := fun k a b => by rw [← binK_eq]; simp only [binK, kindK_eq, decide_true, cond_true, intBinK, fiGtr]
theorem fiGeq_ok : FiOk .geq fiGeq := fun k a b => by rw [← binK_eq]; simp only [binK, kindK_eq, decide_true, cond_true, intBinK, fiGeq]

noncomputable def pickV (b : Bool) (x y : AV) : AV := @Bool.rec (fun _ => AV) y x b
theorem pickV_eq (b : Bool) (x y : AV) : pickV b x y = bif b then x else y := by cases b <;> rfl
noncomputable def p_pick (c x y : AV) (K : AV → Bool) : Bool := asBool (fun b => K (pickV b x y)) c
noncomputable def p_if (c : AV) (X Y : Bool) : Bool := asBool (fun b => ifB b X Y) c
noncomputable def p_yes (c : AV) (X Y : Bool) : Bool := asBoolD (fun b => ifB b X Y) Y c
noncomputable def p_no (c : AV) (X Y : Bool) : Bool := asBoolD (fun b => ifB b Y X) Y c
noncomputable def p_load1 (v : AV) (h : AHeap) (K : AV → Nat → Bool) : Bool := asPtr (fun b o => onCells (fun _ _ _ vs => onNth (fun x => K x b) vs o) h b) v
noncomputable def p_loadN (n : Nat) (v : AV) (h : AHeap) (K : AV → Nat → Bool) : Bool := asPtr (fun b o => onCells (fun _ _ _ vs => onRow vs o n (fun cs => K (.agg cs) b)) h b) v
theorem p_load1_of {v : AV} {h : AHeap} {K : AV → Nat → Bool} (e : p_load1 v h K = true) : ∃ b o ver md es vs x, v = .ptr b o ∧ h.get b = some ⟨ver, .cells md es vs⟩ ∧ vs[o]? = some x ∧ K x b = true := by
  obtain ⟨b, o, rfl, e1⟩ := asPtr_of e
  obtain ⟨ver, md, es, vs, hb, e2⟩ := onCells_of e1
  obtain ⟨x, hx, e3⟩ := onNth_of e2
  exact ⟨b, o, ver, md, es, vs, x, rfl, hb, hx, e3⟩
theorem p_loadN_of {n : Nat} {v : AV} {h : AHeap} {K : AV → Nat → Bool} (e : p_loadN n v h K = true) : ∃ b o ver md es vs cs, v = .ptr b o ∧ h.get b = some ⟨ver, .cells md es vs⟩ ∧ row vs o n = some cs ∧ K (.agg cs) b = true := by
  obtain ⟨b, o, rfl, e1⟩ := asPtr_of e
  obtain ⟨ver, md, es, vs, hb, e2⟩ := onCells_of e1
  obtain ⟨x, hx, e3⟩ := onRow_of e2
  exact ⟨b, o, ver, md, es, vs, x, rfl, hb, hx, e3⟩
noncomputable def p_store (n : Nat) (v w : AV) (h : AHeap) (K : AHeap → Nat → Bool) : Bool :=
  asPtr (fun b o => ifB (Nat.beq (lenV (cellsQ w)) n) (ifB (flatsQ (cellsQ w)) (onCells (fun ver md es vs => ifB (mineQ md) (onLay vs o (cellsQ w) (fun vs' => K (upQ h b (Nat.add ver (nat_lit 1)) (.cells md es vs')) b)) false) h b) false) false) v
theorem p_store_of {n : Nat} {v w : AV} {h : AHeap} {K : AHeap → Nat → Bool} (e : p_store n v w h K = true) : ∃ b o ver md es vs vs', v = .ptr b o ∧ w.cells.length.beq n = true ∧ allFlat w.cells = true ∧ h.get b = some ⟨ver, .cells md es vs⟩ ∧ md.mine = true ∧ lay vs o w.cells = some vs' ∧ K (h.upd b (ver + 1) (.cells md es vs')) b = true := by
  obtain ⟨b, o, rfl, e1⟩ := asPtr_of e
  obtain ⟨h1, e2⟩ := ifB_true e1
  obtain ⟨h2, e3⟩ := ifB_true e2
  obtain ⟨ver, md, es, vs, hb, e4⟩ := onCells_of e3
  obtain ⟨h3, e5⟩ := ifB_true e4
  obtain ⟨vs', hl, e6⟩ := onLay_of e5
  rw [cellsQ_eq, lenV_eq] at h1
  rw [flatsQ_eq, cellsQ_eq] at h2
  rw [cellsQ_eq] at hl
  rw [upQ_eq] at e6
  exact ⟨b, o, ver, md, es, vs, vs', rfl, h1, h2, hb, mineQ_of h3, hl, e6⟩
noncomputable def p_faddr (off : Nat) (v : AV) (K : AV → Bool) : Bool := asPtr (fun b o => K (.ptr b (Nat.add o off))) v
noncomputable def onIn (i : Int) (len : Nat) (f : Nat → Bool) : Bool := @Int.rec (fun _ => Bool) (fun m => ifB (Nat.ble (Nat.succ m) len) (f m) false) (fun _ => false) i
theorem onIn_of {i : Int} {len : Nat} {f : Nat → Bool} (h : onIn i len f = true) : (decide (0 ≤ i) && decide (i < (len : Int))) = true ∧ f i.toNat = true := by
  cases i with
  | ofNat m =>
    obtain ⟨h1, h2⟩ := ifB_true h
    rw [Nat.ble_eq] at h1
    refine ⟨?_, h2⟩
    simp only [Bool.and_eq_true, decide_eq_true_eq]
    exact ⟨Int.natCast_nonneg m, by have : m < len := h1; show ((m : Nat) : Int) < _; omega⟩
  | negSucc m => exact Bool.noConfusion (show false = true from h)
noncomputable def p_iaddr (es : Nat) (v i : AV) (K : AV → Bool) : Bool := asSl (fun b o len _ _ => asInt (fun _ i => onIn i len (fun m => K (.ptr b (Nat.add o (Nat.mul m es))))) i) false v
noncomputable def onNat (i : Int) (f : Nat → Bool) : Bool := @Int.rec (fun _ => Bool) f (fun _ => false) i
theorem onNat_of {i : Int} {f : Nat → Bool} (h : onNat i f = true) : decide (0 ≤ i) = true ∧ f i.toNat = true := by
  cases i with
  | ofNat m => exact ⟨decide_eq_true (Int.natCast_nonneg m), h⟩
  | negSucc m => exact Bool.noConfusion (show false = true from h)
noncomputable def p_lenS (v : AV) (K : AV → Bool) : Bool := asStr (fun s => K (.int .i64 (Int.ofNat (lenB s)))) v
noncomputable def p_lenL (v : AV) (K : AV → Bool) : Bool := asSl (fun _ _ len _ _ => K (.int .i64 (Int.ofNat len))) (K (.int .i64 (Int.ofNat (nat_lit 0)))) v
noncomputable def p_ext (v : AV) (i : Nat) (K : AV → Bool) : Bool := asTup (fun vs => onNth K vs i) v
noncomputable def p_fld (v : AV) (off : Nat) (K : AV → Bool) : Bool := asAgg (fun vs => onNth K vs off) v
noncomputable def p_not (v : AV) (K : AV → Bool) : Bool := asBool (fun b => K (.bool (@Bool.rec (fun _ => Bool) true false b))) v
noncomputable def p_fn (v : AV) (K : FuncId → List AV → List AV → Bool) : Bool := asFunc (fun g a b => match g with | .func f => K f a b | _ => false) v
noncomputable def p_eqv (neg : Bool) (t : KT) (v w : AV) (K : AV → Bool) : Bool := @Option.rec Bool (fun _ => Bool) false (fun b => K (.bool (@Bool.rec (fun _ => Bool) b (@Bool.rec (fun _ => Bool) true false b) neg))) (eqTK t v w)
noncomputable def appL (a b : List AV) : List AV := @List.rec AV (fun _ => List AV) b (fun x _ ih => x :: ih) a
theorem appL_eq : ∀ a b, appL a b = a ++ b
  | [], _ => rfl
  | x :: a, b => congrArg (x :: ·) (appL_eq a b)

noncomputable def dropQ (l : List UInt8) : Nat → List UInt8 :=
  @List.rec UInt8 (fun _ => Nat → List UInt8) (fun _ => []) (fun a t ih n => @Nat.rec (fun _ => List UInt8) (a :: t) (fun m _ => ih m) n) l
noncomputable def takeQ (l : List UInt8) : Nat → List UInt8 :=
  @List.rec UInt8 (fun _ => Nat → List UInt8) (fun _ => []) (fun a _ ih n => @Nat.rec (fun _ => List UInt8) [] (fun m _ => a :: ih m) n) l
theorem dropQ_eq : ∀ (l : List UInt8) (n : Nat), dropQ l n = l.drop n
  | [], n => by simp [dropQ]
  | a :: l, 0 => rfl
  | a :: l, n + 1 => dropQ_eq l n
theorem takeQ_eq : ∀ (l : List UInt8) (n : Nat), takeQ l n = l.take n
  | [], n => by simp [takeQ]
  | a :: l, 0 => rfl
  | a :: l, n + 1 => congrArg (a :: ·) (takeQ_eq l n)
/-- What is left of a text from a place on, by steps of sixteen that are kept. -/
noncomputable def chunkN (s : List UInt8) (j : Nat) : List UInt8 := @Nat.rec (fun _ => List UInt8) s (fun _ ih => dropQ ih (nat_lit 16)) j
noncomputable def dropC (s : List UInt8) (i : Nat) : List UInt8 := dropQ (chunkN s (Nat.div i (nat_lit 16))) (Nat.mod i (nat_lit 16))
theorem chunkN_eq (s : List UInt8) : ∀ j, chunkN s j = s.drop (16 * j)
  | 0 => rfl
  | j + 1 => by
    show dropQ (chunkN s j) 16 = _
    rw [dropQ_eq, chunkN_eq s j, List.drop_drop]
    congr 1
theorem dropC_eq (s : List UInt8) (i : Nat) : dropC s i = s.drop i := by
  show dropQ (chunkN s (i / 16)) (i % 16) = _
  rw [dropQ_eq, chunkN_eq, List.drop_drop]
  congr 1
  omega
noncomputable def onHd (f : UInt8 → Bool) (l : List UInt8) : Bool := @List.rec UInt8 (fun _ => Bool) false (fun a _ _ => f a) l
theorem onHd_of {f : UInt8 → Bool} {s : List UInt8} {i : Nat} (h : onHd f (dropC s i) = true) : ∃ x, s[i]? = some x ∧ f x = true := by
  rw [dropC_eq] at h
  cases e : s.drop i with
  | nil => rw [e] at h; exact Bool.noConfusion (show false = true from h)
  | cons a l =>
    rw [e] at h
    refine ⟨a, ?_, h⟩
    have h1 : (s.drop i)[0]? = some a := by rw [e]; rfl
    rw [List.getElem?_drop] at h1
    simpa using h1
/-- A bound of a slice. -/
noncomputable def onBnd (x : AV) (lim : Nat) (K : Nat → Bool) : Bool := asInt (fun _ i => onNat i fun m => ifB (Nat.ble m lim) (K m) false) x
theorem onBnd_of {x : AV} {d lim : Nat} {K : Nat → Bool} (h : onBnd x lim K = true) : ∃ m, bnd (some x) d lim = some m ∧ K m = true := by
  obtain ⟨k, i, rfl, h⟩ := asInt_of h
  obtain ⟨h1, h⟩ := onNat_of h
  obtain ⟨h2, h⟩ := ifB_true h
  rw [Nat.ble_eq] at h2
  have h1' := of_decide_eq_true h1
  refine ⟨i.toNat, ?_, h⟩
  simp only [bnd, h1, Bool.true_and]
  rw [decide_eq_true (by omega)]
  rfl
noncomputable def p_idxs (v i : AV) (K : AV → Bool) : Bool := asStr (fun s => asInt (fun _ i => onNat i (fun m => onHd (fun c => K (.int .u8 (Int.ofNat c.toNat))) (dropC s m))) i) v
noncomputable def p_box (v : AV) (h : AHeap) (K : AV → AHeap → Bool) : Bool := ifB (flatsQ (cellsQ v)) (K (.ptr h.n (nat_lit 0)) (alQ h (.cells .own (nat_lit 0) (cellsQ v)))) false
noncomputable def onFill (l : List (Nat × Nat × AV)) : List AV → (List AV → Bool) → Bool :=
  @List.rec (Nat × Nat × AV) (fun _ => List AV → (List AV → Bool) → Bool) (fun zs K => K zs) (fun p _ ih zs K => ifB (Nat.beq (lenV (cellsQ p.2.2)) p.2.1) (onLay zs p.1 (cellsQ p.2.2) fun zs' => ih zs' K) false) l
theorem onFill_of {ev : Opd → AV} : ∀ {ps : List (Nat × Nat × Opd)} {zs : List AV} {K : List AV → Bool}, onFill (ps.map fun p => (p.1, p.2.1, ev p.2.2)) zs K = true → ∃ cs, fillA ev zs ps = some cs ∧ K cs = true
  | [], zs, K, h => ⟨zs, rfl, h⟩
  | (off, size, x) :: ps, zs, K, h => by
    obtain ⟨h1, h⟩ := ifB_true (show ifB (Nat.beq (lenV (cellsQ (ev x))) size) (onLay zs off (cellsQ (ev x)) fun zs' => onFill (ps.map fun p => (p.1, p.2.1, ev p.2.2)) zs' K) false = true from h)
    obtain ⟨r, h2, h⟩ := onLay_of h
    obtain ⟨cs, h3, h⟩ := onFill_of h
    refine ⟨cs, ?_, h⟩
    rw [lenV_eq, cellsQ_eq] at h1
    rw [cellsQ_eq] at h2
    simp only [fillA, h1, cond_true, h2, h3]
noncomputable def p_idxa1 (len n : Nat) (v i : AV) (K : AV → Bool) : Bool := asAgg (fun cs => asInt (fun _ i => onIn i len fun m => onNth K cs (Nat.mul m n)) i) v
noncomputable def p_idxaN (len n : Nat) (v i : AV) (K : AV → Bool) : Bool := asAgg (fun cs => asInt (fun _ i => onIn i len fun m => onRow cs (Nat.mul m n) n fun r => K (.agg r)) i) v
noncomputable def p_cvi (k : IntKind) (v : AV) (K : AV → Bool) : Bool := asInt (fun _ n => K (.int k (wrK k n))) v

noncomputable def appS (a b : List UInt8) : List UInt8 := @List.rec UInt8 (fun _ => List UInt8) b (fun x _ ih => x :: ih) a
theorem appS_eq : ∀ a b, appS a b = a ++ b
  | [], _ => rfl
  | x :: a, b => congrArg (x :: ·) (appS_eq a b)
noncomputable def p_add (v w : AV) (K : AV → Bool) : Bool :=
  onIS (fun k a => asInt (fun k' b => ifB (Nat.beq (kIx k) (kIx k')) (K (fiAdd k a b)) false) w) (fun s => asStr (fun t => ifB (Nat.ble (Nat.add (lenB s) (lenB t)) (nat_lit 9223372036854775807)) (K (.str (appS s t))) false) w) v
theorem p_add_of {v w : AV} {K : AV → Bool} (h : p_add v w K = true) : ∃ r, binA .add v w = some r ∧ K r = true := by
  rcases onIS_of h with ⟨k, a, rfl, h⟩ | ⟨s, rfl, h⟩
  · obtain ⟨k', b, rfl, h⟩ := asInt_of h
    obtain ⟨h1, h2⟩ := ifB_true h
    obtain rfl := kIx_inj h1
    exact ⟨_, fiAdd_ok _ _ _, h2⟩
  · obtain ⟨t, rfl, h⟩ := asStr_of h
    obtain ⟨h1, h2⟩ := ifB_true h
    rw [appS_eq] at h2
    rw [lenB_eq, lenB_eq] at h1
    refine ⟨_, ?_, h2⟩
    have h1' : Nat.ble (s.length + t.length) 9223372036854775807 = true := h1
    simp only [binA, strBin, h1', cond_true]
noncomputable def bytesQ (s : List UInt8) : List AV := @List.rec UInt8 (fun _ => List AV) [] (fun c _ ih => .int .u8 (Int.ofNat c.toNat) :: ih) s
theorem bytesQ_eq : ∀ s, bytesQ s = s.map fun c => AV.int .u8 (c.toNat : Int)
  | [] => rfl
  | c :: s => congrArg (_ :: ·) (bytesQ_eq s)
/-- What stands in a slice. -/
noncomputable def onElems (es : Nat) (h : AHeap) (f : Nat → List AV → Bool) (v : AV) : Bool :=
  @AV.rec (fun _ => Bool) (fun _ => Bool) (fun _ => false) (fun _ _ => false) (fun _ _ => false) (fun s => ifB (Nat.beq es (nat_lit 1)) (f (lenB s) (bytesQ s)) false) (fun _ _ => false) false
    (fun b o len _ _ => ifB (Nat.beq len (nat_lit 0)) (f (nat_lit 0) []) (onCells (fun _ _ _ vs => onRow vs o (Nat.mul len es) (f len)) h b)) (f (nat_lit 0) []) (fun _ => false) false (fun _ _ _ _ _ => false) false (fun _ _ _ => false) false (fun _ _ => false) (fun _ _ => false) false (fun _ _ _ _ => false) v
theorem onElems_of {es : Nat} {h : AHeap} {f : Nat → List AV → Bool} {v : AV} (e : onElems es h f v = true) : ∃ n l, elems h es v = some (n, l) ∧ f n l = true := by
  cases v with
  | str s =>
    obtain ⟨h1, h2⟩ := ifB_true (show ifB _ _ _ = true from e)
    rw [lenB_eq, bytesQ_eq] at h2
    have h1' : es.beq 1 = true := h1
    exact ⟨_, _, by simp only [elems, h1', cond_true], h2⟩
  | nilSlice => exact ⟨0, [], rfl, e⟩
  | slice b o len c x =>
    rcases ifB_of (show ifB _ _ _ = true from e) with ⟨h1, h2⟩ | ⟨h1, h2⟩
    · have h1' : len.beq 0 = true := h1
      exact ⟨0, [], by simp only [elems, h1', cond_true], h2⟩
    · have h1' : len.beq 0 = false := h1
      obtain ⟨ver, md, es', vs, hb, h3⟩ := onCells_of h2
      obtain ⟨cs, hr, h4⟩ := onRow_of h3
      have hr' : row vs o (len * es) = some cs := hr
      exact ⟨len, cs, by simp only [elems, h1', cond_false, hb, hr'], h4⟩
  | _ => exact Bool.noConfusion (show false = true from e)
/-- All of a row, at once where it is all. -/
noncomputable def onRow2 (l : List AV) (o n : Nat) (f : List AV → Bool) : Bool := ifB (ifB (Nat.beq o (nat_lit 0)) (Nat.beq (lenV l) n) false) (f l) (onRow l o n f)
theorem onRow2_of {l : List AV} {o n : Nat} {f : List AV → Bool} (h : onRow2 l o n f = true) : ∃ cs, row l o n = some cs ∧ f cs = true := by
  rcases ifB_of h with ⟨h1, h2⟩ | ⟨_, h2⟩
  · obtain ⟨h3, h4⟩ := ifB_true h1
    obtain rfl := Nat.eq_of_beq_eq_true h3
    have h5 := Nat.eq_of_beq_eq_true h4
    rw [lenV_eq] at h5
    subst h5
    refine ⟨l, ?_, h2⟩
    unfold row
    rw [show Nat.ble (0 + l.length) l.length = true by rw [Nat.ble_eq]; omega]
    simp
  · exact onRow_of h2
noncomputable def p_app2 (h : AHeap) (md : Md) (es bytes : Nat) (s : AV) (n : Nat) (new : List AV) (K : AV → AHeap → Bool) : Bool :=
  ifB (Nat.beq (lenV new) (Nat.mul n es)) (ifB (flatsQ new) (asSl (fun b o len cap ex =>
      ifB (Nat.beq n (nat_lit 0)) (K (.slice b o len cap ex) h) (onCells (fun ver md' es' vs => ifB (Nat.beq es' es)
        (ifB (Nat.ble (Nat.add len n) cap) (ifB (sameQ md' md) (onLay vs (Nat.add o (Nat.mul len es)) new fun vs' => K (.slice b o (Nat.add len n) cap ex) (upQ h b (Nat.add ver (nat_lit 1)) (.cells md es vs'))) false)
          (ifB (Nat.ble (Nat.add len n) room) (ifB (Nat.ble (Nat.mul (Nat.add len n) bytes) room) (onRow2 vs o (Nat.mul len es) fun old =>
            ifB ex (K (.slice h.n (nat_lit 0) (Nat.add len n) (Nat.add len n) false) (alQ h (.cells md es (appL old new))))
              (ifB (Nat.beq o (nat_lit 0)) (ifB (Nat.beq cap (nat_lit 0)) false (ifB (sameQ md' md) (K (.slice h.n (nat_lit 0) (Nat.add len n) (Nat.add len n) false) (alQ (upQ h b (Nat.add ver (nat_lit 1)) .dead) (.cells md es (appL old new)))) false)) false)) false) false)) false) h b))
    (ifB (Nat.beq n (nat_lit 0)) (K .nilSlice h) (ifB (Nat.ble n room) (ifB (Nat.ble (Nat.mul n bytes) room) (K (.slice h.n (nat_lit 0) n n false) (alQ h (.cells md es new))) false) false)) s) false) false
theorem p_app2_of {h : AHeap} {md : Md} (hm : md.mine = true) {es bytes : Nat} {s : AV} {n : Nat} {new : List AV} {K : AV → AHeap → Bool} (e : p_app2 h md es bytes s n new K = true) : ∃ v h', appendA h md es bytes s n new = some (v, h') ∧ K v h' = true := by
  have hsm := mdsame_refl hm
  obtain ⟨a1, e⟩ := ifB_true e
  obtain ⟨a2, e⟩ := ifB_true e
  rw [lenV_eq] at a1
  rw [flatsQ_eq] at a2
  have a1' : new.length.beq (n * es) = true := a1
  rcases asSl_of e with ⟨b, o, len, cap, ex, rfl, e1⟩ | ⟨rfl, e1⟩
  · rcases ifB_of e1 with ⟨h1, e2⟩ | ⟨h1, e2⟩
    · have h1' : n.beq 0 = true := h1
      exact ⟨_, _, by simp only [appendA, a1', a2, h1', Bool.not_true, Bool.or_self, cond_false, cond_true], e2⟩
    · have h1' : n.beq 0 = false := h1
      obtain ⟨ver, md', es', vs, hb, e3⟩ := onCells_of e2
      obtain ⟨h2, e4⟩ := ifB_true e3
      obtain rfl := Nat.eq_of_beq_eq_true h2
      rcases ifB_of e4 with ⟨h3, e5⟩ | ⟨h3, e5⟩
      · have h3' : (len + n).ble cap = true := h3
        obtain ⟨h4, e6⟩ := ifB_true e5
        obtain rfl := sameQ_of h4
        obtain ⟨vs', hl, e7⟩ := onLay_of e6
        have hl' : lay vs (o + len * es') new = some vs' := hl
        rw [upQ_eq] at e7
        exact ⟨_, _, by simp only [appendA, a1', a2, h1', hb, Nat.beq_refl, h3', hsm, hl', Bool.not_true, Bool.or_self, cond_false, cond_true]; rfl, e7⟩
      · have h3' : (len + n).ble cap = false := h3
        obtain ⟨h4, e6⟩ := ifB_true e5
        obtain ⟨h5, e7⟩ := ifB_true e6
        have h4' : (len + n).ble room = true := h4
        have h5' : ((len + n) * bytes).ble room = true := h5
        obtain ⟨old, hr, e8⟩ := onRow2_of e7
        have hr' : row vs o (len * es') = some old := hr
        rcases ifB_of e8 with ⟨rfl, e9⟩ | ⟨rfl, e9⟩
        · rw [alQ_eq, appL_eq] at e9
          exact ⟨_, _, by simp only [appendA, a1', a2, h1', hb, Nat.beq_refl, h3', h4', h5', hr', Bool.not_true, Bool.or_self, Bool.and_self, cond_false, cond_true]; rfl, e9⟩
        · obtain ⟨h6, e10⟩ := ifB_true e9
          have h6' : o.beq 0 = true := h6
          rcases ifB_of e10 with ⟨_, e11⟩ | ⟨h7, e11⟩
          · cases e11
          · have h7' : cap.beq 0 = false := h7
            obtain ⟨h8, e12⟩ := ifB_true e11
            obtain rfl := sameQ_of h8
            rw [alQ_eq, appL_eq, upQ_eq] at e12
            exact ⟨_, _, by simp only [appendA, a1', a2, h1', hb, Nat.beq_refl, h3', h4', h5', h6', h7', hr', hsm, Bool.not_true, Bool.or_self, Bool.and_self, cond_false, cond_true]; rfl, e12⟩
  · rcases ifB_of e1 with ⟨h1, e2⟩ | ⟨h1, e2⟩
    · have h1' : n.beq 0 = true := h1
      exact ⟨_, _, by simp only [appendA, a1', a2, h1', Bool.not_true, Bool.or_self, cond_false, cond_true], e2⟩
    · have h1' : n.beq 0 = false := h1
      obtain ⟨h4, e6⟩ := ifB_true e2
      obtain ⟨h5, e7⟩ := ifB_true e6
      have h4' : n.ble room = true := h4
      have h5' : (n * bytes).ble room = true := h5
      rw [alQ_eq] at e7
      exact ⟨_, _, by simp only [appendA, a1', a2, h1', h4', h5', Bool.not_true, Bool.or_self, Bool.and_self, cond_false, cond_true], e7⟩
noncomputable def p_append (md : Md) (es bytes : Nat) (s x : AV) (h : AHeap) (K : AV → AHeap → Bool) : Bool := ifB (mineQ md) (onElems es h (fun n new => p_app2 h md es bytes s n new K) x) false

/-- Any operation, on the few temporaries that it names. -/
noncomputable def actOf (l : List (Nat × AV)) : AAct := ⟨@List.rec (Nat × AV) (fun _ => Tr AV) .nil (fun x _ ih => setTK ih x.1 x.2) l, []⟩
noncomputable def onRes (k : AV → AHeap → Cls → Bool) (r : Option Res) : Bool :=
  @Option.rec Res (fun _ => Bool) false (fun r => @Res.rec (fun _ => Bool) k (fun _ _ => false) (fun _ _ => false) r) r
noncomputable def p_gen (op : MOp) (l : List (Nat × AV)) (h : AHeap) (k : AV → AHeap → Cls → Bool) : Bool := onRes k (evOpK noCall (actOf l) op h)
def ResQ (k : AV → AHeap → Cls → Bool) (kp : AV → AHeap → Bool) (kd : FuncId → List AV → Bool) (r : Option Res) : Prop :=
  (∃ x h' c, r = some (.v x h' c) ∧ k x h' c = true) ∨ (∃ x h', r = some (.pan x h') ∧ kp x h' = true) ∨ ∃ g as, r = some (.df g as) ∧ kd g as = true
theorem onRes_of {k : AV → AHeap → Cls → Bool} {kp : AV → AHeap → Bool} {kd : FuncId → List AV → Bool} {r : Option Res} (h : onRes k r = true) : ResQ k kp kd r := by
  cases r with
  | none => exact Bool.noConfusion (show false = true from h)
  | some r =>
    cases r with
    | v x h' c => exact .inl ⟨x, h', c, rfl, h⟩
    | pan x h' => exact Bool.noConfusion (show false = true from h)
    | df g as => exact Bool.noConfusion (show false = true from h)
theorem actOf_get : ∀ (l : List (Nat × AV)) (i : Nat), (actOf l).tm.get i = (l.find? (fun x => i == x.1)).map (·.2)
  | [], i => by show Tr.get .nil i = _; simp only [Tr.get]; rfl
  | (j, v) :: l, i => by
    show (setTK (actOf l).tm j v).get i = _
    rw [setTK_eq, Tr.get_set, actOf_get l i, List.find?_cons]
    by_cases e : i = j
    · subst e
      simp
    · have : (i == j) = false := by simpa using e
      simp [this, e]
end Go.Ev
/- The fast evaluator: temporaries that are known, operations, codes, calls; and that its answers are true. -/
namespace Go.Ev
open Go

/-- What is known of an activation: some temporaries' values, and what is deferred. -/
structure FEnv where
  v : Nat → Option AV
  df : List (FuncId × List AV)

def FEnv.ok (e : FEnv) (a : AAct) : Prop := (∀ i x, e.v i = some x → a.tm.get i = some x) ∧ a.df = e.df
abbrev FEnv.put (e : FEnv) (d : Option Nat) (x : AV) : FEnv := match d with | none => e | some d => ⟨fun i => bif i.beq d then some x else e.v i, e.df⟩
abbrev FEnv.defer (e : FEnv) (f : FuncId) (as : List AV) : FEnv := ⟨e.v, (f, as) :: e.df⟩
theorem FEnv.ok.put {e : FEnv} {a : AAct} (o : e.ok a) (d : Option Nat) (x : AV) : (e.put d x).ok (a.put d x) := by
  cases d with
  | none => exact o
  | some d =>
    refine ⟨fun i y h => ?_, o.2⟩
    show (a.tm.set d x).get i = _
    rw [Tr.get_set]
    have h' : (bif i.beq d then some x else e.v i) = some y := h
    by_cases q : i = d
    · subst q
      rw [Nat.beq_refl] at h'
      rw [if_pos rfl]
      exact h'
    · rw [beqF q] at h'
      rw [if_neg q]
      exact o.1 i y h'
theorem FEnv.ok.defer {e : FEnv} {a : AAct} (o : e.ok a) (f : FuncId) (as : List AV) : (e.defer f as).ok ⟨a.tm, (f, as) :: a.df⟩ := ⟨o.1, by show _ = _ :: _; rw [o.2]⟩

abbrev FEnv.opd (e : FEnv) (x : Opd) (f : AV → Bool) : Bool :=
  match x with
  | .c v => f v
  | .t i => match e.v i with | some v => f v | none => false
theorem FEnv.opd_of {e : FEnv} {x : Opd} {f : AV → Bool} (h : e.opd x f = true) : ∃ v, (∀ a : AAct, e.ok a → a.eval x = v) ∧ f v = true := by
  cases x with
  | c v => exact ⟨v, fun a _ => rfl, h⟩
  | t i =>
    simp only [FEnv.opd] at h
    split at h
    · rename_i v hv
      exact ⟨v, fun a o => by show (a.tm.get i).getD undefA = v; rw [o.1 i v hv]; rfl, h⟩
    · cases h
theorem FEnv.opdT_of {e : FEnv} {i : Nat} {f : AV → Bool} (h : e.opd (.t i) f = true) : ∃ v, (∀ a : AAct, e.ok a → a.tm.get i = some v) ∧ f v = true := by
  simp only [FEnv.opd] at h
  split at h
  · rename_i v hv
    exact ⟨v, fun a o => o.1 i v hv, h⟩
  · cases h
abbrev FEnv.opds (e : FEnv) : List Opd → (List AV → Bool) → Bool
  | [], f => f []
  | x :: r, f => e.opd x fun v => e.opds r fun vs => f (v :: vs)
theorem FEnv.opds_of {e : FEnv} : ∀ {l : List Opd} {f : List AV → Bool}, e.opds l f = true → ∃ vs, (∀ a : AAct, e.ok a → l.map a.eval = vs) ∧ f vs = true
  | [], f, h => ⟨[], fun _ _ => rfl, h⟩
  | x :: r, f, h => by
    obtain ⟨v, h1, h2⟩ := FEnv.opd_of h
    obtain ⟨vs, h3, h4⟩ := FEnv.opds_of h2
    exact ⟨v :: vs, fun a o => by rw [List.map_cons, h1 a o, h3 a o], h4⟩
/-- The parts of a value. -/
abbrev FEnv.parts (e : FEnv) : List (Nat × Nat × Opd) → (List (Nat × Nat × AV) → Bool) → Bool
  | [], f => f []
  | (off, size, x) :: r, f => e.opd x fun v => e.parts r fun vs => f ((off, size, v) :: vs)
theorem FEnv.parts_of {e : FEnv} : ∀ {l : List (Nat × Nat × Opd)} {f : List (Nat × Nat × AV) → Bool}, e.parts l f = true → ∃ vs, (∀ a : AAct, e.ok a → (l.map fun p => (p.1, p.2.1, a.eval p.2.2)) = vs) ∧ f vs = true
  | [], f, h => ⟨[], fun _ _ => rfl, h⟩
  | (off, size, x) :: r, f, h => by
    obtain ⟨v, h1, h2⟩ := FEnv.opd_of (show e.opd x _ = true from h)
    obtain ⟨vs, h3, h4⟩ := FEnv.parts_of h2
    exact ⟨(off, size, v) :: vs, fun a o => by rw [List.map_cons, h3 a o]; simp only [h1 a o], h4⟩
/-- A bound of a slice, or what stands for it. -/
noncomputable abbrev FEnv.bound (e : FEnv) : Option Opd → Nat → Nat → (Nat → Bool) → Bool
  | none, d, _, K => K d
  | some x, _, lim, K => e.opd x fun v => onBnd v lim K
theorem FEnv.bound_of {e : FEnv} {x : Option Opd} {d lim : Nat} {K : Nat → Bool} (h : e.bound x d lim K = true) : ∃ m, (∀ a : AAct, e.ok a → bnd (x.map a.eval) d lim = some m) ∧ K m = true := by
  cases x with
  | none => exact ⟨d, fun _ _ => rfl, h⟩
  | some x =>
    obtain ⟨v, h1, h2⟩ := FEnv.opd_of (show e.opd x _ = true from h)
    obtain ⟨m, h3, h4⟩ := onBnd_of (d := d) h2
    exact ⟨m, fun a o => by rw [Option.map_some, h1 a o]; exact h3, h4⟩
/-- The temporaries that an operation names. -/
abbrev FEnv.tmps (e : FEnv) : List Opd → (List (Nat × AV) → Bool) → Bool
  | [], f => f []
  | .c _ :: r, f => e.tmps r f
  | .t i :: r, f => e.opd (.t i) fun v => e.tmps r fun vs => f ((i, v) :: vs)
theorem FEnv.tmps_of {e : FEnv} : ∀ {l : List Opd} {f : List (Nat × AV) → Bool}, e.tmps l f = true → ∃ vs, (∀ a : AAct, e.ok a → ∀ x ∈ l, (actOf vs).eval x = a.eval x) ∧ f vs = true
  | [], f, h => ⟨[], ⟨fun _ _ x hx => (by cases hx), h⟩⟩
  | .c w :: r, f, h => by
    obtain ⟨vs, h3, h4⟩ := FEnv.tmps_of (l := r) h
    refine ⟨vs, fun a o x hx => ?_, h4⟩
    rcases List.mem_cons.1 hx with rfl | hx
    · rfl
    · exact h3 a o x hx
  | .t i :: r, f, h => by
    obtain ⟨v, h1, h2⟩ := FEnv.opdT_of h
    obtain ⟨vs, h3, h4⟩ := FEnv.tmps_of h2
    refine ⟨(i, v) :: vs, fun a o x hx => ?_, h4⟩
    cases x with
    | c w => rfl
    | t j =>
      show ((actOf ((i, v) :: vs)).tm.get j).getD undefA = _
      rw [actOf_get, List.find?_cons]
      by_cases q : j = i
      · subst q
        simp only [beq_self_eq_true, Option.map_some, Option.getD_some]
        show v = (a.tm.get j).getD undefA
        rw [h1 a o]
        rfl
      · have : (j == i) = false := by simpa using q
        rw [this]
        simp only
        rw [← actOf_get]
        rcases List.mem_cons.1 hx with e1 | hx
        · cases e1; exact absurd rfl q
        · exact h3 a o _ hx

abbrev FCall := FuncId → List AV → AHeap → (AV → AHeap → Bool) → (AV → AHeap → Bool) → Bool
def resB (kr kp : AV → AHeap → Bool) : QR
  | .ret v, h => kr v h = true
  | .pan v, h => kp v h = true
def FCallOk (F : FT) (call : FCall) : Prop := ∀ f args h kr kp, call f args h kr kp = true → WF F f args h (resB kr kp)

/-- What an operation does. -/
noncomputable abbrev feOp (call : FCall) (op : MOp) (e : FEnv) (h : AHeap) (k : AV → AHeap → Cls → Bool) (kp : AV → AHeap → Bool) (kd : FuncId → List AV → Bool) : Bool :=
  match op with
  | .mov x => e.opd x fun v => k v h .free
  | .pick c x y => e.opd c fun c => e.opd x fun x => e.opd y fun y => p_pick c x y fun r => k r h .free
  | .new md zs => k (.ptr h.n (nat_lit 0)) (alQ h (.cells md (nat_lit 0) zs)) .new
  | .load true n x => e.opd x fun v => p_loadN n v h fun r b => k r h (.rd b)
  | .load false _ x => e.opd x fun v => p_load1 v h fun r b => k r h (.rd b)
  | .store n x y => e.opd x fun v => e.opd y fun w => p_store n v w h fun h' b => k undefA h' (.wr b)
  | .nilck x => e.opd x fun v => asNil (k v h .free) v
  | .bin .add x y => e.opd x fun v => e.opd y fun w => p_add v w fun r => k r h .free
  | .bin .sub x y => e.opd x fun v => e.opd y fun w => p_bin .sub fiSub v w fun r => k r h .free
  | .bin .eql x y => e.opd x fun v => e.opd y fun w => p_eq v w fun r => k r h .free
  | .bin .neq x y => e.opd x fun v => e.opd y fun w => p_bin .neq fiNeq v w fun r => k r h .free
  | .bin .lss x y => e.opd x fun v => e.opd y fun w => p_bin .lss fiLss v w fun r => k r h .free
  | .bin .leq x y => e.opd x fun v => e.opd y fun w => p_bin .leq fiLeq v w fun r => k r h .free
  | .bin .gtr x y => e.opd x fun v => e.opd y fun w => p_bin .gtr fiGtr v w fun r => k r h .free
  | .bin .geq x y => e.opd x fun v => e.opd y fun w => p_bin .geq fiGeq v w fun r => k r h .free
  | .eqv neg t x y => e.opd x fun v => e.opd y fun w => p_eqv neg t v w fun r => k r h .free
  | .un .not x => e.opd x fun v => p_not v fun r => k r h .free
  | .faddr off x => e.opd x fun v => p_faddr off v fun r => k r h .free
  | .fld false off _ x => e.opd x fun v => p_fld v off fun r => k r h .free
  | .iaddr es x i => e.opd x fun v => e.opd i fun i => p_iaddr es v i fun r => k r h .free
  | .idxs x i => e.opd x fun v => e.opd i fun i => p_idxs v i fun r => k r h .free
  | .ext x i => e.opd x fun v => p_ext v i fun r => k r h .free
  | .lenS x => e.opd x fun v => p_lenS v fun r => k r h .free
  | .lenL x => e.opd x fun v => p_lenL v fun r => k r h .free
  | .mkfn fn fs cs => e.opds fs fun vs => e.opds cs fun ws => k (.func fn vs ws) h .free
  | .mkif t x => e.opd x fun v => k (.iface t v) h .free
  | .box x => e.opd x fun v => p_box v h fun r h' => k r h' .new
  | .build zs ps => e.parts ps fun l => onFill l zs fun cs => k (.agg cs) h .free
  | .bslice es zs len ps => e.parts ps fun l => onFill l zs fun cs => ifB (flatsQ cs) (k (.slice h.n (nat_lit 0) len len true) (alQ h (.cells .own es cs)) .new) false
  | .sls x lo none => e.opd x fun v => asStr (fun s => e.bound lo 0 (lenB s) fun l => k (.str (dropC s l)) h .free) v
  | .sls x lo (some hi) => e.opd x fun v => asStr (fun s => e.opd hi fun w => onBnd w (lenB s) fun hh => e.bound lo 0 hh fun l => k (.str (takeQ (dropC s l) (Nat.sub hh l))) h .free) v
  | .idxa false len n x i => e.opd x fun v => e.opd i fun w => p_idxa1 len n v w fun r => k r h .free
  | .idxa true len n x i => e.opd x fun v => e.opd i fun w => p_idxaN len n v w fun r => k r h .free
  | .cvi kd x => e.opd x fun v => p_cvi kd v fun r => k r h .free
  | .append md es b s x => e.opd s fun v => e.opd x fun w => p_append md es b v w h fun r h' => k r h' .big
  | .call f args => e.opds args fun vs => call f vs h (fun v h' => k v h' .big) kp
  | .callv f args => e.opd f fun fv => e.opds args fun vs => p_fn fv fun f fs cs => call f (appL fs (appL vs cs)) h (fun v h' => k v h' .big) kp
  | .defer f => e.opd f fun fv => p_fn fv fun f fs cs => kd f (appL fs cs)
  | .panic x => e.opd x fun v => asIf (fun t x => kp (.iface t x) h) v
  | op => e.tmps op.opds fun l => p_gen op l h k

theorem p_fn_of {v : AV} {K : FuncId → List AV → List AV → Bool} (h : p_fn v K = true) : ∃ f a b, v = .func (.func f) a b ∧ K f a b = true := by
  obtain ⟨g, a, b, rfl, h⟩ := asFunc_of h
  cases g with
  | func f => exact ⟨f, a, b, rfl, h⟩
  | _ => cases h

section
variable {F : FT} {call : FCall} {e : FEnv} {a : AAct} {h : AHeap} {k : AV → AHeap → Cls → Bool} {kp : AV → AHeap → Bool} {kd : FuncId → List AV → Bool}

/-- What is to be shown of an operation. -/
def OpQ (F : FT) (a : AAct) (h : AHeap) (k : AV → AHeap → Cls → Bool) (kp : AV → AHeap → Bool) (kd : FuncId → List AV → Bool) (op : MOp) : Prop :=
  match op.isCall with
  | true => WCall F (calleeA a op) h (resB (fun v h' => k v h' .big) kp)
  | false => ResQ k kp kd (evO a op h)

theorem ResQ.val {x : AV} {h' : AHeap} {c : Cls} {r : Option Res} (e : r = some (.v x h' c)) (q : k x h' c = true) : ResQ k kp kd r := .inl ⟨x, h', c, e, q⟩
theorem gen_ok {op : MOp} (ok : e.ok a) (hc : op.isCall = false) (w : (e.tmps op.opds fun l => p_gen op l h k) = true) : OpQ F a h k kp kd op := by
  obtain ⟨vs, h1, h2⟩ := FEnv.tmps_of w
  have h3 := onRes_of (kp := kp) (kd := kd) h2
  rw [evOpK_eq, evOp_congr (b := a) (h1 a ok)] at h3
  unfold OpQ
  rw [hc]
  exact h3
theorem bin_ok {op : BinOp} {x y : Opd} {r : AV} (h1 : binA op (a.eval x) (a.eval y) = some r) (h2 : k r h .free = true) : OpQ F a h k kp kd (.bin op x y) :=
  .val (x := r) (h' := h) (c := .free) (by simp only [evO, evOp, h1]) h2
theorem fiBin_ok {op : BinOp} {fi : IntKind → Int → Int → AV} (hf : FiOk op fi) {x y : Opd} (ok : e.ok a) (w : (e.opd x fun v => e.opd y fun w => p_bin op fi v w fun r => k r h .free) = true) : OpQ F a h k kp kd (.bin op x y) := by
  obtain ⟨v, h1, w⟩ := FEnv.opd_of w
  obtain ⟨u, h2, w⟩ := FEnv.opd_of w
  obtain ⟨r, h3, w⟩ := p_bin_of hf w
  exact bin_ok (by rw [h1 a ok, h2 a ok]; exact h3) w

theorem feOp_ok (hcall : FCallOk F call) (ok : e.ok a) : ∀ {op : MOp}, feOp call op e h k kp kd = true → OpQ F a h k kp kd op := by
  intro op w
  unfold feOp at w
  split at w
  · -- mov
    obtain ⟨v, h1, w⟩ := FEnv.opd_of w
    exact .val (by simp only [evO, evOp]; rw [h1 a ok]) w
  · -- pick
    obtain ⟨c, h1, w⟩ := FEnv.opd_of w
    obtain ⟨x, h2, w⟩ := FEnv.opd_of w
    obtain ⟨y, h3, w⟩ := FEnv.opd_of w
    obtain ⟨b, rfl, w1⟩ := asBool_of w
    exact .val (by simp only [evO, evOp, h1 a ok, h2 a ok, h3 a ok, pickV_eq]) w1
  · -- new
    rw [alQ_eq] at w
    exact .val (by simp only [evO, evOp]) w
  · -- load true
    obtain ⟨v, h1, w⟩ := FEnv.opd_of w
    obtain ⟨b, o, ver, md, es, vs, cs, rfl, h2, h3, w⟩ := p_loadN_of w
    exact .val (by simp only [evO, evOp, h1 a ok, h2, h3, cond_true]) w
  · -- load false
    obtain ⟨v, h1, w⟩ := FEnv.opd_of w
    obtain ⟨b, o, ver, md, es, vs, x, rfl, h2, h3, w⟩ := p_load1_of w
    exact .val (by simp only [evO, evOp, h1 a ok, h2, h3, cond_false]) w
  · -- store
    obtain ⟨v, h1, w⟩ := FEnv.opd_of w
    obtain ⟨u, h2, w⟩ := FEnv.opd_of w
    obtain ⟨b, o, ver, md, es, vs, vs', rfl, h3, h4, h5, h7, h6, w⟩ := p_store_of w
    exact .val (by simp only [evO, evOp, h1 a ok, h2 a ok, h3, h4, h5, h6, h7, Bool.not_true, Bool.or_self, cond_false]) w
  · -- nilck
    obtain ⟨v, h1, w⟩ := FEnv.opd_of w
    obtain ⟨h2, w⟩ := asNil_of w
    rcases h2 with ⟨b, o, rfl⟩ | ⟨t, x, rfl⟩
    · exact .val (by simp only [evO, evOp, h1 a ok]) w
    · exact .val (by simp only [evO, evOp, h1 a ok]) w
  · obtain ⟨v, h1, w⟩ := FEnv.opd_of w
    obtain ⟨u, h2, w⟩ := FEnv.opd_of w
    obtain ⟨r, h3, w⟩ := p_add_of w
    exact bin_ok (by rw [h1 a ok, h2 a ok]; exact h3) w
  · exact fiBin_ok fiSub_ok ok w
  · obtain ⟨v, h1, w⟩ := FEnv.opd_of w
    obtain ⟨u, h2, w⟩ := FEnv.opd_of w
    obtain ⟨r, h3, w⟩ := p_eq_of w
    exact bin_ok (by rw [h1 a ok, h2 a ok]; exact h3) w
  · exact fiBin_ok fiNeq_ok ok w
  · exact fiBin_ok fiLss_ok ok w
  · exact fiBin_ok fiLeq_ok ok w
  · exact fiBin_ok fiGtr_ok ok w
  · exact fiBin_ok fiGeq_ok ok w
  · -- eqv
    rename_i neg t x y
    obtain ⟨v, h1, w⟩ := FEnv.opd_of w
    obtain ⟨u, h2, w⟩ := FEnv.opd_of w
    unfold p_eqv at w
    rw [eqTK_eq] at w
    cases q : eqT t v u with
    | none => rw [q] at w; exact Bool.noConfusion (show false = true from w)
    | some b =>
      rw [q] at w
      refine .val (x := .bool (bif neg then !b else b)) (h' := h) (c := .free) (by simp only [evO, evOp, h1 a ok, h2 a ok, q]) ?_
      cases neg <;> cases b <;> exact w
  · -- not
    obtain ⟨v, h1, w⟩ := FEnv.opd_of w
    obtain ⟨b, rfl, w⟩ := asBool_of w
    refine .val (x := .bool (!b)) (h' := h) (c := .free) (by simp only [evO, evOp, h1 a ok, unA]) ?_
    cases b <;> exact w
  · -- faddr
    obtain ⟨v, h1, w⟩ := FEnv.opd_of w
    obtain ⟨b, o, rfl, w⟩ := asPtr_of w
    exact .val (by simp only [evO, evOp, h1 a ok]; rfl) w
  · -- fld
    obtain ⟨v, h1, w⟩ := FEnv.opd_of w
    obtain ⟨l, rfl, w⟩ := asAgg_of w
    obtain ⟨x, h2, w⟩ := onNth_of w
    exact .val (by simp only [evO, evOp, h1 a ok, h2, cond_false]) w
  · -- iaddr
    obtain ⟨v, h1, w⟩ := FEnv.opd_of w
    obtain ⟨i, h2, w⟩ := FEnv.opd_of w
    rcases asSl_of w with ⟨b, o, l, c, x, rfl, w⟩ | ⟨_, w⟩
    · obtain ⟨ki, n, rfl, w⟩ := asInt_of w
      obtain ⟨h3, w⟩ := onIn_of w
      exact .val (by simp only [evO, evOp, h1 a ok, h2 a ok, h3, cond_true]; rfl) w
    · cases w
  · -- idxs
    obtain ⟨v, h1, w⟩ := FEnv.opd_of w
    obtain ⟨i, h2, w⟩ := FEnv.opd_of w
    obtain ⟨s, rfl, w⟩ := asStr_of w
    obtain ⟨ki, n, rfl, w⟩ := asInt_of w
    obtain ⟨h3, w⟩ := onNat_of w
    obtain ⟨c, h4, w⟩ := onHd_of w
    exact .val (by simp only [evO, evOp, h1 a ok, h2 a ok, h3, h4, cond_true]; rfl) w
  · -- ext
    obtain ⟨v, h1, w⟩ := FEnv.opd_of w
    obtain ⟨l, rfl, w⟩ := asTup_of w
    obtain ⟨x, h2, w⟩ := onNth_of w
    exact .val (by simp only [evO, evOp, h1 a ok, h2]) w
  · -- lenS
    obtain ⟨v, h1, w⟩ := FEnv.opd_of w
    obtain ⟨s, rfl, w1⟩ := asStr_of w
    rw [lenB_eq] at w1
    exact .val (by simp only [evO, evOp, h1 a ok]; rfl) w1
  · -- lenL
    obtain ⟨v, h1, w⟩ := FEnv.opd_of w
    rcases asSl_of w with ⟨b, o, l, c, x, rfl, w⟩ | ⟨rfl, w⟩
    · exact .val (by simp only [evO, evOp, h1 a ok]; rfl) w
    · exact .val (by simp only [evO, evOp, h1 a ok]; rfl) w
  · -- mkfn
    obtain ⟨vs, h1, w⟩ := FEnv.opds_of w
    obtain ⟨us, h2, w⟩ := FEnv.opds_of w
    exact .val (by simp only [evO, evOp, h1 a ok, h2 a ok]) w
  · -- mkif
    obtain ⟨v, h1, w⟩ := FEnv.opd_of w
    exact .val (by simp only [evO, evOp, h1 a ok]) w
  · -- box
    obtain ⟨v, h1, w⟩ := FEnv.opd_of w
    obtain ⟨h2, w⟩ := ifB_true w
    rw [flatsQ_eq, cellsQ_eq] at h2
    rw [alQ_eq, cellsQ_eq] at w
    exact .val (by simp only [evO, evOp, h1 a ok, h2, cond_true]) w
  · -- build
    obtain ⟨vs, h1, w⟩ := FEnv.parts_of w
    rw [← h1 a ok] at w
    obtain ⟨cs, h2, w⟩ := onFill_of w
    exact .val (by simp only [evO, evOp, h2]) w
  · -- bslice
    obtain ⟨vs, h1, w⟩ := FEnv.parts_of w
    rw [← h1 a ok] at w
    obtain ⟨cs, h2, w⟩ := onFill_of w
    obtain ⟨h3, w⟩ := ifB_true w
    rw [flatsQ_eq] at h3
    rw [alQ_eq] at w
    exact .val (by simp only [evO, evOp, h2, h3, cond_true]) w
  · -- sls
    obtain ⟨v, h1, w⟩ := FEnv.opd_of w
    obtain ⟨s, rfl, w1⟩ := asStr_of w
    obtain ⟨l, h3, w3⟩ := FEnv.bound_of w1
    rw [dropC_eq] at w3
    have h3' := h3 a ok
    rw [lenB_eq] at h3'
    exact .val (by
      have e0 : bnd (none : Option AV) s.length s.length = some s.length := rfl
      simp only [evO, evOp, h1 a ok, Option.map_none, e0, h3']
      rw [List.take_of_length_le (by rw [List.length_drop]; exact Nat.le_refl _)]) w3
  · obtain ⟨v, h1, w⟩ := FEnv.opd_of w
    obtain ⟨s, rfl, w1⟩ := asStr_of w
    obtain ⟨u, h2, w2⟩ := FEnv.opd_of w1
    obtain ⟨hh, h4, w2⟩ := onBnd_of (d := s.length) w2
    obtain ⟨l, h3, w3⟩ := FEnv.bound_of w2
    rw [takeQ_eq, dropC_eq] at w3
    rw [lenB_eq] at h4
    exact .val (by simp only [evO, evOp, h1 a ok, Option.map_some, h2 a ok, h4, h3 a ok]; rfl) w3
  · -- idxa
    obtain ⟨v, h1, w⟩ := FEnv.opd_of w
    obtain ⟨i, h2, w⟩ := FEnv.opd_of w
    obtain ⟨cs, rfl, w⟩ := asAgg_of w
    obtain ⟨ki, n, rfl, w⟩ := asInt_of w
    obtain ⟨h3, w⟩ := onIn_of w
    obtain ⟨x, h4, w⟩ := onNth_of w
    exact .val (by simp only [evO, evOp, h1 a ok, h2 a ok, h3, cond_true, cond_false]; rw [show cs[n.toNat * _]? = some x from h4]) w
  · obtain ⟨v, h1, w⟩ := FEnv.opd_of w
    obtain ⟨i, h2, w⟩ := FEnv.opd_of w
    obtain ⟨cs, rfl, w⟩ := asAgg_of w
    obtain ⟨ki, n, rfl, w⟩ := asInt_of w
    obtain ⟨h3, w⟩ := onIn_of w
    obtain ⟨x, h4, w⟩ := onRow_of w
    exact .val (by simp only [evO, evOp, h1 a ok, h2 a ok, h3, cond_true]; rw [show row cs (n.toNat * _) _ = some x from h4]) w
  · -- cvi
    obtain ⟨v, h1, w⟩ := FEnv.opd_of w
    obtain ⟨ki, n, rfl, w1⟩ := asInt_of w
    rw [wrK_eq] at w1
    exact .val (by simp only [evO, evOp, h1 a ok]) w1
  · -- append
    obtain ⟨v, h1, w⟩ := FEnv.opd_of w
    obtain ⟨u, h2, w⟩ := FEnv.opd_of w
    obtain ⟨hm, w⟩ := ifB_true w
    obtain ⟨n, new, h3, w⟩ := onElems_of w
    obtain ⟨r, h', h4, w⟩ := p_app2_of (mineQ_of hm) w
    exact .val (by simp only [evO, evOp, h1 a ok, h2 a ok, h3, h4]) w
  · -- call
    obtain ⟨vs, h1, w⟩ := FEnv.opds_of w
    have := hcall _ _ _ _ _ w
    rw [← h1 a ok] at this
    show WCall F (calleeA a (.call _ _)) h _
    simp only [calleeA, WCall_some]
    exact this
  · -- callv
    rename_i f args
    obtain ⟨fv, h1, w⟩ := FEnv.opd_of w
    obtain ⟨vs, h2, w⟩ := FEnv.opds_of w
    obtain ⟨g, fs, cs, rfl, w1⟩ := p_fn_of w
    rw [appL_eq, appL_eq] at w1
    have := hcall _ _ _ _ _ w1
    show WCall F (calleeA a (.callv f args)) h _
    simp only [calleeA, h1 a ok, h2 a ok, WCall_some]
    exact this
  · -- defer
    obtain ⟨fv, h1, w⟩ := FEnv.opd_of w
    obtain ⟨g, fs, cs, rfl, w1⟩ := p_fn_of w
    rw [appL_eq] at w1
    exact .inr (.inr ⟨g, fs ++ cs, by simp only [evO, evOp, h1 a ok], w1⟩)
  · -- panic
    obtain ⟨v, h1, w⟩ := FEnv.opd_of w
    obtain ⟨t, x, rfl, w1⟩ := asIf_of w
    exact .inr (.inl ⟨.iface t x, h, by simp only [evO, evOp, h1 a ok], w1⟩)
  · rename_i hn1 hn2 _ _
    refine gen_ok ok ?_ w
    cases op <;> first | rfl | (exact absurd rfl (hn1 _ _)) | (exact absurd rfl (hn2 _ _))
end
end Go.Ev
/- The fast evaluator: codes, functions, calls; its answers are true. -/
namespace Go.Ev
open Go

/-! ### What is asked of a code ahead of its run -/
def rdM : Opd → Nat
  | .t i => 2 ^ i
  | .c _ => 0
def dstM : Option Nat → Nat
  | some d => 2 ^ d
  | none => 0
def guardM : Option (Nat × Bool) → Nat
  | some (t, _) => 2 ^ t
  | none => 0
def operLive (o : MOper) (out : Nat) : Nat := (out ^^^ (out &&& dstM o.dst)) ||| o.op.opds.foldl (fun m x => m ||| rdM x) (guardM o.guard)
/-- The temporaries that a code may read before it sets them. -/
def live (ret : Nat) : MCode → (Nat → Nat) → Nat → Nat
  | .skip, _, out => out
  | .reg l, _, out => l.foldr operLive out
  | .regD l, _, out => l.foldr (fun x m => operLive x.2 m) out
  | .seq x y, X, out => live ret x X (live ret y X out)
  | .cond c x y, X, out => rdM c ||| live ret x X out ||| live ret y X out
  | .block id x, X, out => live ret x (fun i => bif i.beq id then out else X i) out
  | .loop x, X, _ => live ret x X (live ret x X (live ret x X 0))
  | .exit id, X, _ => X id
  | .ret, _, _ => ret
/-- The temporaries that a code sets. -/
def DS : MCode → Nat
  | .reg l => l.foldl (fun m o => m ||| dstM o.dst) 0
  | .regD l => l.foldl (fun m o => m ||| dstM o.2.dst) 0
  | .seq x y => DS x ||| DS y
  | .cond _ x y => DS x ||| DS y
  | .block _ x => DS x
  | .loop x => DS x
  | _ => 0
def isDefer : MOp → Bool
  | .defer _ => true
  | _ => false
def within1 (M : Nat) (D : Bool) (o : MOper) : Bool := (match o.dst with | some d => M.testBit d | none => true) && (D || !isDefer o.op)
def within (M : Nat) (D : Bool) : MCode → Bool
  | .reg l => l.all (within1 M D)
  | .regD l => l.all fun x => within1 M D x.2
  | .seq x y => within M D x && within M D y
  | .cond _ x y => within M D x && within M D y
  | .block _ x => within M D x
  | .loop x => within M D x
  | _ => true
def bitsL (n m : Nat) : List Nat := (List.range n).filter fun i => m.testBit i
def sub (m M : Nat) : Bool := (m &&& M).beq m
theorem sub_of {m M i : Nat} (h : sub m M = true) (hi : m.testBit i = true) : M.testBit i = true := by
  have h1 : m &&& M = m := Nat.eq_of_beq_eq_true h
  rw [← h1, Nat.testBit_and, Bool.and_eq_true] at hi
  exact hi.2

/-! ### Environments -/
abbrev cB (b x y : Bool) : Bool := match b with | true => x | false => y
abbrev FEnv.vals (e : FEnv) : List Nat → (List AV → Bool) → Bool
  | [], f => f []
  | i :: r, f => e.opd (.t i) fun v => e.vals r fun vs => f (v :: vs)
theorem FEnv.vals_of {e : FEnv} : ∀ {L : List Nat} {f : List AV → Bool}, e.vals L f = true → ∃ xs, (∀ j i, L[j]? = some i → e.v i = some (nthV xs j)) ∧ f xs = true
  | [], f, h => ⟨[], fun j i q => by simp at q, h⟩
  | i :: r, f, h => by
    have h' : (match e.v i with | some v => e.vals r fun vs => f (v :: vs) | none => false) = true := h
    cases hv : e.v i with
    | none => rw [hv] at h'; cases h'
    | some v =>
      rw [hv] at h'
      obtain ⟨vs, h3, h4⟩ := FEnv.vals_of h'
      refine ⟨v :: vs, fun j i' q => ?_, h4⟩
      cases j with
      | zero =>
        simp at q
        subst q
        exact hv
      | succ j => exact h3 j i' (by simpa using q)
noncomputable abbrev findL (xs : List AV) (i : Nat) : List Nat → Nat → Option AV
  | [], _ => none
  | l :: r, j => bif l.beq i then some (nthV xs j) else findL xs i r (j + 1)
theorem findL_of {xs : List AV} {i : Nat} {x : AV} : ∀ {L : List Nat} {j : Nat}, findL xs i L j = some x → ∃ k, L[k]? = some i ∧ x = nthV xs (j + k)
  | [], j, h => by cases h
  | l :: r, j, h => by
    unfold findL at h
    by_cases q : l = i
    · subst q
      rw [Nat.beq_refl] at h
      cases h
      exact ⟨0, by simp, by simp⟩
    · rw [beqF q] at h
      obtain ⟨k, h1, h2⟩ := findL_of (L := r) (j := j + 1) h
      exact ⟨k + 1, by simpa using h1, by rw [h2]; congr 1; omega⟩
noncomputable abbrev FEnv.after (e : FEnv) (M : Nat) (L : List Nat) (xs : List AV) : FEnv := ⟨fun i => bif M.testBit i then findL xs i L 0 else e.v i, e.df⟩
abbrev FEnv.kill (e : FEnv) (l : List (Nat × MOper)) : FEnv := ⟨fun i => bif l.any (fun x => match x.2.dst with | some d => d.beq i | none => false) then none else e.v i, e.df⟩

def Same (M : Nat) (D : Bool) (e e' : FEnv) : Prop := (∀ i, M.testBit i = false → e'.v i = e.v i) ∧ (D = false → e'.df = e.df)
theorem Same.refl (M : Nat) (D : Bool) (e : FEnv) : Same M D e e := ⟨fun _ _ => rfl, fun _ => rfl⟩
theorem Same.trans {M M' : Nat} {D D' : Bool} {e e1 e2 : FEnv} (s : Same M D e e1) (t : Same M' D' e1 e2) (hM : sub M' M = true) (hD : D' = true → D = true) : Same M D e e2 :=
  ⟨fun i hi => (t.1 i (by cases q : M'.testBit i with | false => rfl | true => rw [sub_of hM q] at hi; cases hi)).trans (s.1 i hi),
   fun hd => (t.2 (by cases D' with | false => rfl | true => rw [hD rfl] at hd; cases hd)).trans (s.2 hd)⟩
theorem Same.put {M : Nat} {D : Bool} {e e1 : FEnv} (s : Same M D e e1) {o : MOper} (hw : within1 M D o = true) (x : AV) : Same M D e (e1.put o.dst x) := by
  unfold within1 at hw
  simp only [Bool.and_eq_true] at hw
  cases hd : o.dst with
  | none => exact s
  | some d =>
    rw [hd] at hw
    refine ⟨fun i hi => ?_, s.2⟩
    show (bif i.beq d then some x else e1.v i) = _
    rw [beqF (fun q => by subst q; have h1 : M.testBit i = true := hw.1; rw [h1] at hi; cases hi)]
    exact s.1 i hi
theorem Same.defer {M : Nat} {D : Bool} {e e1 : FEnv} (s : Same M D e e1) {o : MOper} (hw : within1 M D o = true) (ho : isDefer o.op = true) (g : FuncId) (as : List AV) : Same M D e (e1.defer g as) := by
  unfold within1 at hw
  simp only [Bool.and_eq_true, ho, Bool.not_true, Bool.or_false] at hw
  exact ⟨s.1, fun q => by rw [hw.2] at q; cases q⟩
theorem Same.after {M : Nat} {D : Bool} (e : FEnv) (L : List Nat) (xs : List AV) : Same M D e (e.after M L xs) :=
  ⟨fun i hi => by show (bif M.testBit i then _ else _) = _; rw [hi]; rfl, fun _ => rfl⟩
theorem after_ok {M : Nat} {L : List Nat} {xs : List AV} {e e' : FEnv} {a : AAct} (ok : e'.ok a) (s : Same M false e e') (hv : ∀ j i, L[j]? = some i → e'.v i = some (nthV xs j)) : (e.after M L xs).ok a := by
  refine ⟨fun i x hx => ?_, ?_⟩
  · have h : (bif M.testBit i then findL xs i L 0 else e.v i) = some x := hx
    cases q : M.testBit i with
    | true =>
      rw [q] at h
      obtain ⟨k, h1, h2⟩ := findL_of (show findL xs i L 0 = some x from h)
      subst h2
      rw [Nat.zero_add]
      exact ok.1 i _ (hv k i h1)
    | false =>
      rw [q] at h
      refine ok.1 i x ?_
      rw [s.1 i q]
      exact h
  · rw [ok.2]
    exact s.2 rfl
theorem kill_ok {e : FEnv} {a : AAct} (ok : e.ok a) (l : List (Nat × MOper)) : (e.kill l).ok ⟨dels l a.tm, a.df⟩ := by
  refine ⟨fun i x hx => ?_, ok.2⟩
  have h : (bif l.any (fun x => match x.2.dst with | some d => d.beq i | none => false) then none else e.v i) = some x := hx
  cases q : l.any (fun x => match x.2.dst with | some d => d.beq i | none => false) with
  | true => rw [q] at h; cases h
  | false =>
    rw [q] at h
    have h1 := ok.1 i x h
    have key : ∀ (l : List (Nat × MOper)) (t : Tr AV), l.any (fun x => match x.2.dst with | some d => d.beq i | none => false) = false → (dels l t).get i = t.get i := by
      intro l
      induction l with
      | nil => intro t _; rfl
      | cons y l ih =>
        intro t hq
        obtain ⟨j, o⟩ := y
        simp only [List.any_cons, Bool.or_eq_false_iff] at hq
        show (dels l (match o.dst with | some d => t.del d | none => t)).get i = _
        rw [ih _ hq.2]
        cases hd : o.dst with
        | none => rfl
        | some d =>
          rw [hd] at hq
          show (t.del d).get i = _
          rw [Tr.get_del, if_neg]
          intro e
          subst e
          have h2 : i.beq i = false := hq.1
          rw [Nat.beq_refl] at h2
          cases h2
    show (dels l a.tm).get i = _
    rw [key l _ q]
    exact h1

/-! ### Regions -/
noncomputable def joinV (G : (AV → AHeap → Bool) → Bool) (K : AV → AHeap → Bool) : Bool := G K
noncomputable def joinL (G : (List AV → AHeap → Bool) → Bool) (K : List AV → AHeap → Bool) : Bool := G K
noncomputable def joinC (G : (AV → AHeap → Cls → AHeap → Bool) → Bool) (K : AV → AHeap → Cls → AHeap → Bool) : Bool := G K
noncomputable abbrev p_want (w : Bool) (g : AV) (X Y : Bool) : Bool := match w with | true => p_yes g X Y | false => p_no g X Y
def wantV (w : Bool) : AV → Bool
  | .bool b => b == w
  | _ => false
theorem p_want_of {w : Bool} {g : AV} {X Y : Bool} (h : p_want w g X Y = true) : wantV w g = true ∧ X = true ∨ wantV w g = false ∧ Y = true := by
  cases w with
  | true =>
    rcases asBoolD_of (show p_yes g X Y = true from h) with ⟨b, rfl, h⟩ | ⟨h1, h⟩
    · rcases ifB_of h with ⟨rfl, h⟩ | ⟨rfl, h⟩
      · exact .inl ⟨rfl, h⟩
      · exact .inr ⟨rfl, h⟩
    · refine .inr ⟨?_, h⟩
      cases g <;> first | rfl | exact absurd rfl (h1 _)
  | false =>
    rcases asBoolD_of (show p_no g X Y = true from h) with ⟨b, rfl, h⟩ | ⟨h1, h⟩
    · rcases ifB_of h with ⟨rfl, h⟩ | ⟨rfl, h⟩
      · exact .inr ⟨rfl, h⟩
      · exact .inl ⟨rfl, h⟩
    · refine .inr ⟨?_, h⟩
      cases g <;> first | rfl | exact absurd rfl (h1 _)

noncomputable abbrev feOps (call : FCall) : List MOper → FEnv → AHeap → (FEnv → AHeap → Bool) → (AV → FEnv → AHeap → Bool) → Bool
  | [], e, h, kn, _ => kn e h
  | o :: r, e, h, kn, kp => match o.guard with
    | none => feOp call o.op e h (fun x h' _ => feOps call r (e.put o.dst x) h' kn kp) (fun x h' => kp x e h') (fun g as => cB (isDefer o.op) (feOps call r ((e.defer g as).put o.dst undefA) h kn kp) false)
    | some (t, want) => e.opd (.t t) fun g => joinV (fun j => p_want want g (feOp call o.op e h (fun x h' _ => j x h') (fun x h' => kp x e h') (fun _ _ => false)) (j undefA h)) (fun x h' => feOps call r (e.put o.dst x) h' kn kp)

def PostF (e0 : FEnv) (M : Nat) (D : Bool) (kn : FEnv → AHeap → Bool) (kx : Nat → FEnv → AHeap → Bool) (kr : FEnv → AHeap → Bool) (kp : AV → FEnv → AHeap → Bool) : Post := fun ex a h =>
  ∃ e, e.ok a ∧ Same M D e0 e ∧ (match ex with | .norm => kn e h | .exit i => kx i e h | .ret => kr e h | .pan v => kp v e h) = true

section
variable {F : FT} {call : FCall} {M : Nat} {D : Bool} {e0 : FEnv} {kn : FEnv → AHeap → Bool} {kx : Nat → FEnv → AHeap → Bool} {kr : FEnv → AHeap → Bool} {kp : AV → FEnv → AHeap → Bool}

theorem wanted_yes {a : AAct} {t : Nat} {want : Bool} {g : AV} (h : a.tm.get t = some g) : wantedA a (some (t, want)) = wantV want g := by
  show (match a.tm.get t with | some (.bool b) => b == want | _ => false) = _
  rw [h]
  cases g <;> rfl

/-- An operation that is run, and what stands behind it. -/
theorem kindP_of {f : AAct → AHeap → Post → Prop} {d : Option Nat} {op : MOp} {a : AAct} {h : AHeap} {K : Post} {k : AV → AHeap → Cls → Bool} {kp' : AV → AHeap → Bool} {kd : FuncId → List AV → Bool}
    (w : OpQ F a h k kp' kd op) (hv : ∀ x h' c, k x h' c = true → f (a.put d x) h' K) (hp : ∀ x h', kp' x h' = true → K (.pan x) a h') (hd : ∀ g as, kd g as = true → f (AAct.put ⟨a.tm, (g, as) :: a.df⟩ d undefA) h K) :
    kindP F f op.isCall d op a h K := by
  unfold OpQ at w
  cases hc : op.isCall with
  | true =>
    rw [hc] at w
    rw [kindP_true]
    refine w.mono ?_
    intro r h' hr
    cases r with
    | ret v => rw [callP_ret]; exact hv _ _ _ hr
    | pan v => rw [callP_pan]; exact hp _ _ hr
  | false =>
    rw [hc] at w
    rw [kindP_false]
    rcases w with ⟨x, h', c, e, q⟩ | ⟨x, h', e, q⟩ | ⟨g, as, e, q⟩
    · rw [e, opP_v]; exact hv _ _ _ q
    · rw [e, opP_pan]; exact hp _ _ q
    · rw [e, opP_df]; exact hd _ _ q

theorem feOps_ok (hcall : FCallOk F call) : ∀ (l : List MOper) (e : FEnv) (a : AAct) (h : AHeap), l.all (within1 M D) = true → e.ok a → Same M D e0 e → feOps call l e h kn kp = true → wpOps F l a h (PostF e0 M D kn kx kr kp)
  | [], e, a, h, _, ok, s, w => by
    rw [wpOps_nil]
    exact ⟨e, ok, s, w⟩
  | o :: r, e, a, h, hw, ok, s, w => by
    simp only [List.all_cons, Bool.and_eq_true] at hw
    obtain ⟨hw1, hw2⟩ := hw
    obtain ⟨d, op, g, b⟩ := o
    rw [wpOps_cons]
    cases g with
    | none =>
      rw [wanted_none, wantP_yes]
      have w' : feOp call op e h (fun x h' _ => feOps call r (e.put d x) h' kn kp) (fun x h' => kp x e h') (fun g as => cB (isDefer op) (feOps call r ((e.defer g as).put d undefA) h kn kp) false) = true := w
      refine kindP_of (feOp_ok hcall ok w') ?_ ?_ ?_
      · exact fun x h' c q => feOps_ok hcall r _ _ _ hw2 (ok.put d x) (s.put hw1 x) q
      · exact fun x h' q => ⟨e, ok, s, q⟩
      · intro g as q
        cases hd : isDefer op with
        | false => rw [hd] at q; cases q
        | true =>
          rw [hd] at q
          exact feOps_ok hcall r _ _ _ hw2 ((ok.defer g as).put d undefA) ((s.defer hw1 hd g as).put hw1 undefA) q
    | some tw =>
      obtain ⟨t, want⟩ := tw
      obtain ⟨gv, hg, w1⟩ := FEnv.opdT_of (show e.opd (.t t) _ = true from w)
      have w2 := p_want_of (show p_want want gv _ _ = true from w1)
      rw [wanted_yes (hg a ok)]
      rcases w2 with ⟨q, w2⟩ | ⟨q, w2⟩
      · rw [q, wantP_yes]
        refine kindP_of (feOp_ok hcall ok w2) ?_ ?_ ?_
        · exact fun x h' c q => feOps_ok hcall r _ _ _ hw2 (ok.put d x) (s.put hw1 x) q
        · exact fun x h' q => ⟨e, ok, s, q⟩
        · intro g as q
          cases q
      · rw [q, wantP_no]
        exact feOps_ok hcall r _ _ _ hw2 (ok.put d undefA) (s.put hw1 undefA) w2

/-! Regions whose order is open -/
/-- Operations that neither read nor change blocks. -/
def clsFree : MOp → Bool
  | .mov _ => true
  | .pick _ _ _ => true
  | .nilck _ => true
  | .bin _ _ _ => true
  | .eqv _ _ _ _ => true
  | .un _ _ => true
  | .cvi _ _ => true
  | .mkif _ _ => true
  | .mkfn _ _ _ => true
  | .faddr _ _ => true
  | .fld _ _ _ _ => true
  | .iaddr _ _ _ => true
  | .idxs _ _ => true
  | .ext _ _ => true
  | .lenS _ => true
  | .lenL _ => true
  | _ => false
noncomputable def okAll (k : Cls) (hb ha : AHeap) : List Rec → Bool
  | [] => true
  | r :: rs => ifB (compat r k hb ha) (okAll k hb ha rs) false
def filtR (bef : Nat) : List Rec → List Rec
  | [] => []
  | r :: rs => bif bef.testBit r.i then filtR bef rs else r :: filtR bef rs
theorem okAll_of {bef : Nat} {k : Cls} {hb ha : AHeap} : ∀ {rs : List Rec}, okAll k hb ha (filtR bef rs) = true → okWith bef k hb ha rs = true
  | [], _ => rfl
  | r :: rs, h => by
    unfold filtR at h
    simp only [okWith, Bool.and_eq_true]
    cases q : bef.testBit r.i with
    | true =>
      rw [q] at h
      exact ⟨by simp, okAll_of h⟩
    | false =>
      rw [q] at h
      obtain ⟨h1, h2⟩ := ifB_true (show ifB _ _ _ = true from h)
      exact ⟨by rw [h1]; rfl, okAll_of h2⟩
noncomputable abbrev okF (op : MOp) (bef : Nat) (k : Cls) (hb ha : AHeap) (rs : List Rec) (K : Bool) : Bool :=
  cB (clsFree op) K (match filtR bef rs with
  | [] => K
  | r :: l => ifB (okAll k hb ha (r :: l)) K false)
abbrev recF (op : MOp) (r : Rec) (rs : List Rec) : List Rec := bif clsFree op then rs else r :: rs

abbrev ifNone (pan : Option (Nat × AV)) (K : Bool) : Bool := match pan with | some _ => false | none => K
noncomputable abbrev feD (call : FCall) (all : List (Nat × MOper)) : List (Nat × MOper) → List Rec → Option (Nat × AV) → FEnv → AHeap → (FEnv → AHeap → Bool) → (AV → FEnv → AHeap → Bool) → Bool
  | [], _, none, e, h, kn, _ => kn e h
  | [], _, some (_, v), e, h, _, kp => kp v (e.kill all) h
  | (i, o) :: r, rs, pan, e, h, kn, kp =>
    cB (skipsD o.bef pan) (feD call all r rs pan e h kn kp) <|
    match o.guard with
    | none => feOp call o.op e h (fun x h' c => okF o.op o.bef c h h' rs (feD call all r (recF o.op ⟨i, c, h, h'⟩ rs) pan (e.put o.dst x) h' kn kp))
        (fun x h' => ifNone pan (okF (.call 0 []) o.bef .big h h' rs (feD call all r (⟨i, .big, h, h'⟩ :: rs) (some (i, x)) e h' kn kp))) (fun _ _ => false)
    | some (t, want) => e.opd (.t t) fun g => joinC (fun j => p_want want g
          (feOp call o.op e h (fun x h' c => okF o.op o.bef c h h' rs (j x h' c h)) (fun x h' => ifNone pan (okF (.call 0 []) o.bef .big h h' rs (feD call all r (⟨i, .big, h, h'⟩ :: rs) (some (i, x)) e h' kn kp))) (fun _ _ => false))
          (j undefA h .free h))
        (fun x h' c hb => feD call all r (recF o.op ⟨i, c, hb, h'⟩ rs) pan (e.put o.dst x) h' kn kp)

/-- The records that are kept tell at least as much. -/
def SupR (rsF rsW : List Rec) : Prop := ∀ bef k hb ha, okWith bef k hb ha rsF = true → okWith bef k hb ha rsW = true
theorem SupR.cons {rsF rsW : List Rec} (s : SupR rsF rsW) (r : Rec) : SupR (r :: rsF) (r :: rsW) := fun bef k hb ha h => by
  simp only [okWith, Bool.and_eq_true] at h ⊢
  exact ⟨h.1, s _ _ _ _ h.2⟩
theorem SupR.more {rsF rsW : List Rec} (s : SupR rsF rsW) (r : Rec) : SupR (r :: rsF) rsW := fun bef k hb ha h => by
  simp only [okWith, Bool.and_eq_true] at h
  exact s _ _ _ _ h.2
theorem okF_of {op : MOp} {bef : Nat} {k : Cls} {hb ha : AHeap} {rs : List Rec} {K : Bool} (h : okF op bef k hb ha rs K = true) : K = true ∧ (clsFree op = false → okWith bef k hb ha rs = true) := by
  unfold okF at h
  cases q : clsFree op with
  | true => rw [q] at h; exact ⟨h, fun q => by cases q⟩
  | false =>
    rw [q] at h
    cases hf : filtR bef rs with
    | nil =>
      have h1 : (match filtR bef rs with | [] => K | r :: l => ifB (okAll k hb ha (r :: l)) K false) = true := h
      rw [hf] at h1
      exact ⟨h1, fun _ => okAll_of (by rw [hf]; rfl)⟩
    | cons r l =>
      have h1 : (match filtR bef rs with | [] => K | r :: l => ifB (okAll k hb ha (r :: l)) K false) = true := h
      rw [hf] at h1
      obtain ⟨h2, h3⟩ := ifB_true h1
      exact ⟨h3, fun _ => okAll_of (by rw [hf]; exact h2)⟩
theorem clsFree_of {op : MOp} (hq : clsFree op = true) {a : AAct} {h h' : AHeap} {x : AV} {c : Cls} (he : evO a op h = some (.v x h' c)) : c = .free := by
  cases op <;> first | (cases hq; done) | skip
  all_goals
    simp only [evO, evOp, cond_eq_ite] at he
    repeat' split at he
    all_goals first | (cases he; done) | (cases he; rfl)
theorem recPD_of {f : List Rec → Option (Nat × AV) → AAct → AHeap → Post → Prop} {i bef : Nat} {k : Cls} {a : AAct} {h h' : AHeap} {rsF rs : List Rec} {pan : Option (Nat × AV)} {K : Post} (sp : SupR rsF rs) (hf : k ≠ .free → okWith bef k h h' rsF = true)
    (hk : ∀ rs', SupR (⟨i, k, h, h'⟩ :: rsF) rs' → (k = .free → SupR rsF rs') → f rs' pan a h' K) : recPD f i bef k a h h' rs pan K := by
  cases k with
  | free => rw [recPD_free]; exact hk _ (sp.more _) fun _ => sp
  | new => rw [recPD_new]; exact ⟨sp _ _ _ _ (hf (by simp)), hk _ (sp.cons _) fun q => by cases q⟩
  | rd b => rw [recPD_rd]; exact ⟨sp _ _ _ _ (hf (by simp)), hk _ (sp.cons _) fun q => by cases q⟩
  | wr b => rw [recPD_wr]; exact ⟨sp _ _ _ _ (hf (by simp)), hk _ (sp.cons _) fun q => by cases q⟩
  | big => rw [recPD_big]; exact ⟨sp _ _ _ _ (hf (by simp)), hk _ (sp.cons _) fun q => by cases q⟩
theorem kindPD_of {f : List Rec → Option (Nat × AV) → AAct → AHeap → Post → Prop} {i bef : Nat} {d : Option Nat} {op : MOp} {a : AAct} {h : AHeap} {rs : List Rec} {pan : Option (Nat × AV)} {K : Post} {k : AV → AHeap → Cls → Bool} {kp' : AV → AHeap → Bool}
    (w : OpQ F a h k kp' (fun _ _ => false) op) (hv : ∀ x h' c, k x h' c = true → (clsFree op = true → c = .free) → recPD f i bef c (a.put d x) h h' rs pan K) (hp : ∀ x h', kp' x h' = true → pan = none ∧ recPD f i bef .big a h h' rs (some (i, x)) K) :
    kindPD F f op.isCall i bef d op a h rs pan K := by
  unfold OpQ at w
  cases hc : op.isCall with
  | true =>
    rw [hc] at w
    rw [kindPD_true]
    refine w.mono ?_
    intro r h' hr
    cases r with
    | ret v => rw [callPD_ret]; exact hv _ _ _ hr (fun q => by cases op <;> first | (cases hc; done) | exact Bool.noConfusion (show false = true from q))
    | pan v =>
      obtain ⟨rfl, h2⟩ := hp _ _ hr
      rw [callPD_pan]; exact h2
  | false =>
    rw [hc] at w
    rw [kindPD_false]
    rcases w with ⟨x, h', c, e, q⟩ | ⟨x, h', e, q⟩ | ⟨g, as, e, q⟩
    · rw [e, opPD_v]; exact hv _ _ _ q fun hq => clsFree_of hq e
    · obtain ⟨rfl, h2⟩ := hp _ _ q
      rw [e, opPD_pan]; exact h2
    · cases q
theorem SupR.rec {op : MOp} {r : Rec} {rsF rs' : List Rec} (h1 : SupR (r :: rsF) rs') (h2 : r.k = .free → SupR rsF rs') (hc : clsFree op = true → r.k = .free) : SupR (recF op r rsF) rs' := by
  unfold recF
  cases q : clsFree op with
  | true => exact h2 (hc q)
  | false => exact h1

noncomputable abbrev feD1 (call : FCall) (all r : List (Nat × MOper)) (i : Nat) (d : Option Nat) (op : MOp) (g : Option (Nat × Bool)) (b : Nat) (rs : List Rec) (pan : Option (Nat × AV)) (e : FEnv) (h : AHeap) (kn : FEnv → AHeap → Bool) (kp : AV → FEnv → AHeap → Bool) : Bool :=
  cB (skipsD b pan) (feD call all r rs pan e h kn kp) <|
    match g with
    | none => feOp call op e h (fun x h' c => okF op b c h h' rs (feD call all r (recF op ⟨i, c, h, h'⟩ rs) pan (e.put d x) h' kn kp))
        (fun x h' => ifNone pan (okF (.call 0 []) b .big h h' rs (feD call all r (⟨i, .big, h, h'⟩ :: rs) (some (i, x)) e h' kn kp))) (fun _ _ => false)
    | some (t, want) => e.opd (.t t) fun g => joinC (fun j => p_want want g
          (feOp call op e h (fun x h' c => okF op b c h h' rs (j x h' c h)) (fun x h' => ifNone pan (okF (.call 0 []) b .big h h' rs (feD call all r (⟨i, .big, h, h'⟩ :: rs) (some (i, x)) e h' kn kp))) (fun _ _ => false))
          (j undefA h .free h))
        (fun x h' c hb => feD call all r (recF op ⟨i, c, hb, h'⟩ rs) pan (e.put d x) h' kn kp)
theorem feD_cons {call : FCall} {all r : List (Nat × MOper)} {i : Nat} {d : Option Nat} {op : MOp} {g : Option (Nat × Bool)} {b : Nat} {rs : List Rec} {pan : Option (Nat × AV)} {e : FEnv} {h : AHeap} {kn : FEnv → AHeap → Bool} {kp : AV → FEnv → AHeap → Bool} :
    feD call all ((i, ⟨d, op, g, b⟩) :: r) rs pan e h kn kp = feD1 call all r i d op g b rs pan e h kn kp := by
  cases pan <;> rfl

theorem feD_ok (hcall : FCallOk F call) (all : List (Nat × MOper)) (hall : all.all (fun x => within1 M D x.2) = true) : ∀ (l : List (Nat × MOper)) (rsF rs : List Rec) (pan : Option (Nat × AV)) (e : FEnv) (a : AAct) (h : AHeap), l.all (fun x => within1 M D x.2) = true → SupR rsF rs → e.ok a → Same M D e0 e → feD call all l rsF pan e h kn kp = true → wpD F all l rs pan a h (PostF e0 M D kn kx kr kp)
  | [], rsF, rs, none, e, a, h, _, _, ok, s, w => by
    rw [wpD_nil]
    exact ⟨e, ok, s, w⟩
  | [], rsF, rs, some (j, v), e, a, h, _, _, ok, s, w => by
    rw [wpD_nilPan]
    refine ⟨e.kill all, kill_ok ok all, ⟨fun i hi => ?_, s.2⟩, w⟩
    show (bif _ then _ else _) = _
    cases q : all.any (fun x => match x.2.dst with | some d => d.beq i | none => false) with
    | false => exact s.1 i hi
    | true =>
      obtain ⟨x, hx, hq⟩ := List.any_eq_true.1 q
      have h1 := List.all_eq_true.1 hall x hx
      unfold within1 at h1
      simp only [Bool.and_eq_true] at h1
      cases hd : x.2.dst with
      | none => rw [hd] at hq; cases hq
      | some d =>
        rw [hd] at h1 hq
        obtain rfl := Nat.eq_of_beq_eq_true hq
        have h2 : M.testBit d = true := h1.1
        rw [h2] at hi
        cases hi
  | (i, o) :: r, rsF, rs, pan, e, a, h, hw, sp, ok, s, w => by
    simp only [List.all_cons, Bool.and_eq_true] at hw
    obtain ⟨hw1, hw2⟩ := hw
    obtain ⟨d, op, g, b⟩ := o
    rw [wpD_cons]
    have w0 := w
    rw [feD_cons] at w0
    unfold feD1 at w0
    cases hs : skipsD b pan with
    | true =>
      rw [hs] at w0
      rw [skipPD_true]
      exact feD_ok hcall all hall r _ _ _ _ _ _ hw2 sp ok s w0
    | false =>
      rw [hs] at w0
      rw [skipPD_false]
      have hpan : ∀ x h', (ifNone pan (okF (.call 0 []) b .big h h' rsF (feD call all r (⟨i, .big, h, h'⟩ :: rsF) (some (i, x)) e h' kn kp))) = true → pan = none ∧ recPD (wpD F all r) i b .big a h h' rs (some (i, x)) (PostF e0 M D kn kx kr kp) := by
        intro x h' q
        cases pan with
        | some _ => cases q
        | none =>
          obtain ⟨q1, q2⟩ := okF_of q
          exact ⟨rfl, recPD_of sp (fun _ => q2 rfl) fun rs' t _ => feD_ok hcall all hall r _ _ _ _ _ _ hw2 t ok s q1⟩
      cases g with
      | none =>
        rw [wanted_none, wantPD_yes]
        have w1 : feOp call op e h (fun x h' c => okF op b c h h' rsF (feD call all r (recF op ⟨i, c, h, h'⟩ rsF) pan (e.put d x) h' kn kp))
          (fun x h' => ifNone pan (okF (.call 0 []) b .big h h' rsF (feD call all r (⟨i, .big, h, h'⟩ :: rsF) (some (i, x)) e h' kn kp))) (fun _ _ => false) = true := w0
        refine kindPD_of (feOp_ok hcall ok w1) ?_ hpan
        intro x h' c q hc
        obtain ⟨q1, q2⟩ := okF_of q
        refine recPD_of sp (fun hne => q2 (by cases hq : clsFree op with | false => rfl | true => exact absurd (hc hq) hne)) fun rs' t1 t2 => ?_
        exact feD_ok hcall all hall r _ _ _ _ _ _ hw2 (t1.rec t2 hc) (ok.put d x) (s.put hw1 x) q1
      | some tw =>
        obtain ⟨t, want⟩ := tw
        obtain ⟨gv, hg, w1⟩ := FEnv.opdT_of (show e.opd (.t t) _ = true from w0)
        have w2 := p_want_of (show p_want want gv _ _ = true from w1)
        rw [wanted_yes (hg a ok)]
        rcases w2 with ⟨q, w2⟩ | ⟨q, w2⟩
        · rw [q, wantPD_yes]
          have w3 : feOp call op e h (fun x h' c => okF op b c h h' rsF (feD call all r (recF op ⟨i, c, h, h'⟩ rsF) pan (e.put d x) h' kn kp))
            (fun x h' => ifNone pan (okF (.call 0 []) b .big h h' rsF (feD call all r (⟨i, .big, h, h'⟩ :: rsF) (some (i, x)) e h' kn kp))) (fun _ _ => false) = true := w2
          refine kindPD_of (feOp_ok hcall ok w3) ?_ hpan
          intro x h' c q hc
          obtain ⟨q1, q2⟩ := okF_of q
          refine recPD_of sp (fun hne => q2 (by cases hq : clsFree op with | false => rfl | true => exact absurd (hc hq) hne)) fun rs' t1 t2 => ?_
          exact feD_ok hcall all hall r _ _ _ _ _ _ hw2 (t1.rec t2 hc) (ok.put d x) (s.put hw1 x) q1
        · rw [q, wantPD_no]
          exact feD_ok hcall all hall r _ _ _ _ _ _ hw2 (SupR.rec (sp.more _) (fun _ => sp) (fun _ => rfl)) (ok.put d undefA) (s.put hw1 undefA) w2
end
end Go.Ev
/- The fast evaluator: codes, functions, calls. -/
namespace Go.Ev
open Go

noncomputable def loopB (n : Nat) (G : (List AV → AHeap → Bool) → List AV → AHeap → Bool) : List AV → AHeap → Bool := @Nat.rec (fun _ => List AV → AHeap → Bool) (fun _ _ => false) (fun _ ih => G ih) n

noncomputable abbrev feC (call : FCall) (fuel ret nt : Nat) : MCode → Bool → Nat → (Nat → Nat) → FEnv → AHeap → (FEnv → AHeap → Bool) → (Nat → FEnv → AHeap → Bool) → (FEnv → AHeap → Bool) → (AV → FEnv → AHeap → Bool) → Bool
  | .skip, _, _, _, e, h, kn, _, _, _ => kn e h
  | .reg l, _, _, _, e, h, kn, _, _, kp => feOps call l e h kn kp
  | .regD l, _, _, _, e, h, kn, _, _, kp => feD call l l [] none e h kn kp
  | .seq x y, big, out, X, e, h, kn, kx, kr, kp => feC call fuel ret nt x true (live ret y X out) X e h (fun e' h' => feC call fuel ret nt y big out X e' h' kn kx kr kp) kx kr kp
  | .cond c x y, big, out, X, e, h, kn, kx, kr, kp => e.opd c fun v =>
    cB big
      (cB (within (DS x ||| DS y) false x && within (DS x ||| DS y) false y)
        (joinL (fun j => p_if v (feC call fuel ret nt x false out X e h (fun e' h' => e'.vals (bitsL nt ((DS x ||| DS y) &&& (out ||| ret))) fun xs => j xs h') kx kr kp)
            (feC call fuel ret nt y false out X e h (fun e' h' => e'.vals (bitsL nt ((DS x ||| DS y) &&& (out ||| ret))) fun xs => j xs h') kx kr kp))
          (fun xs h' => kn (e.after (DS x ||| DS y) (bitsL nt ((DS x ||| DS y) &&& (out ||| ret))) xs) h'))
        false)
      (p_if v (feC call fuel ret nt x false out X e h kn kx kr kp) (feC call fuel ret nt y false out X e h kn kx kr kp))
  | .block id x, big, out, X, e, h, kn, kx, kr, kp =>
    cB big
      (cB (within (DS x) false x)
        (joinL (fun j => feC call fuel ret nt x false out (fun i => bif i.beq id then out else X i) e h (fun e' h' => e'.vals (bitsL nt (DS x &&& (out ||| ret))) fun xs => j xs h')
            (fun i e' h' => cB (i.beq id) (e'.vals (bitsL nt (DS x &&& (out ||| ret))) fun xs => j xs h') (kx i e' h')) kr kp)
          (fun xs h' => kn (e.after (DS x) (bitsL nt (DS x &&& (out ||| ret))) xs) h'))
        false)
      (feC call fuel ret nt x false out (fun i => bif i.beq id then out else X i) e h kn (fun i e' h' => cB (i.beq id) (kn e' h') (kx i e' h')) kr kp)
  | .loop x, _, _, X, e, h, _, kx, kr, kp =>
    cB (within (DS x) false x)
      (e.vals (bitsL nt (DS x &&& (live ret (.loop x) X 0 ||| ret))) fun xs0 =>
        loopB fuel (fun again xs h' => feC call fuel ret nt x false (live ret (.loop x) X 0) X (e.after (DS x) (bitsL nt (DS x &&& (live ret (.loop x) X 0 ||| ret))) xs) h'
          (fun e' h'' => e'.vals (bitsL nt (DS x &&& (live ret (.loop x) X 0 ||| ret))) fun ys => again ys h'') kx kr kp) xs0 h)
      false
  | .exit id, _, _, _, e, h, _, kx, _, _ => kx id e h
  | .ret, _, _, _, e, h, _, _, kr, _ => kr e h

theorem foldl_or {α : Type} (f : α → Nat) (i : Nat) : ∀ (l : List α) (m : Nat), (l.foldl (fun m o => m ||| f o) m).testBit i = true → m.testBit i = true ∨ ∃ o ∈ l, (f o).testBit i = true
  | [], m, h => .inl h
  | o :: l, m, h => by
    rcases foldl_or f i l _ h with h | ⟨o', ho, h⟩
    · rw [Nat.testBit_or, Bool.or_eq_true] at h
      rcases h with h | h
      · exact .inl h
      · exact .inr ⟨o, by simp, h⟩
    · exact .inr ⟨o', by simp [ho], h⟩
theorem dstM_in {M : Nat} {D : Bool} {o : MOper} (hw : within1 M D o = true) {i : Nat} (hi : (dstM o.dst).testBit i = true) : M.testBit i = true := by
  unfold within1 at hw
  simp only [Bool.and_eq_true] at hw
  cases hd : o.dst with
  | none =>
    rw [hd] at hi
    simp [dstM] at hi
  | some d =>
    rw [hd] at hi hw
    have h1 : (2 ^ d).testBit i = true := hi
    rw [Nat.testBit_two_pow] at h1
    have : d = i := by simpa using h1
    subst this
    exact hw.1
theorem DS_in {M : Nat} {D : Bool} : ∀ {c : MCode}, within M D c = true → ∀ i, (DS c).testBit i = true → M.testBit i = true
  | .skip, _, i, h => by simp [DS] at h
  | .exit _, _, i, h => by simp [DS] at h
  | .ret, _, i, h => by simp [DS] at h
  | .reg l, w, i, h => by
    rcases foldl_or (fun o : MOper => dstM o.dst) i l 0 h with h | ⟨o, ho, h⟩
    · simp at h
    · exact dstM_in (List.all_eq_true.1 w o ho) h
  | .regD l, w, i, h => by
    rcases foldl_or (fun o : Nat × MOper => dstM o.2.dst) i l 0 h with h | ⟨o, ho, h⟩
    · simp at h
    · exact dstM_in (List.all_eq_true.1 w o ho) h
  | .seq x y, w, i, h => by
    simp only [within, Bool.and_eq_true] at w
    simp only [DS, Nat.testBit_or, Bool.or_eq_true] at h
    exact h.elim (DS_in w.1 i) (DS_in w.2 i)
  | .cond _ x y, w, i, h => by
    simp only [within, Bool.and_eq_true] at w
    simp only [DS, Nat.testBit_or, Bool.or_eq_true] at h
    exact h.elim (DS_in w.1 i) (DS_in w.2 i)
  | .block _ x, w, i, h => DS_in (c := x) w i h
  | .loop x, w, i, h => DS_in (c := x) w i h
theorem sub_mk {m M : Nat} (h : ∀ i, m.testBit i = true → M.testBit i = true) : sub m M = true := by
  unfold sub
  rw [Nat.beq_eq]
  refine Nat.eq_of_testBit_eq fun i => ?_
  rw [Nat.testBit_and]
  cases q : m.testBit i with
  | false => rfl
  | true => rw [h i q]; rfl

section
variable {F : FT} {call : FCall} {fuel ret nt : Nat}

theorem PostF.of {e0 e : FEnv} {M M' : Nat} {D D' : Bool} {kn kn' : FEnv → AHeap → Bool} {kx kx' : Nat → FEnv → AHeap → Bool} {kr : FEnv → AHeap → Bool} {kp : AV → FEnv → AHeap → Bool} {ex : AExit} {a : AAct} {h : AHeap}
    (s : Same M D e0 e) (hM : sub M' M = true) (hD : D' = true → D = true) (p : PostF e M' D' kn' kx' kr kp ex a h)
    (hn : ex = .norm → ∀ e1, e1.ok a → Same M' D' e e1 → kn' e1 h = true → PostF e0 M D kn kx kr kp .norm a h) (hx : ∀ i, ex = .exit i → ∀ e1, e1.ok a → Same M' D' e e1 → kx' i e1 h = true → PostF e0 M D kn kx kr kp (.exit i) a h) : PostF e0 M D kn kx kr kp ex a h := by
  obtain ⟨e1, ok, s1, k⟩ := p
  cases ex with
  | norm => exact hn rfl e1 ok s1 k
  | exit i => exact hx i rfl e1 ok s1 k
  | ret => exact ⟨e1, ok, s.trans s1 hM hD, k⟩
  | pan v => exact ⟨e1, ok, s.trans s1 hM hD, k⟩

theorem feC_ok (hcall : FCallOk F call) : ∀ (c : MCode) {M : Nat} {D big : Bool} {out : Nat} {X : Nat → Nat} {e0 e : FEnv} {a : AAct} {h : AHeap} {kn : FEnv → AHeap → Bool} {kx : Nat → FEnv → AHeap → Bool} {kr : FEnv → AHeap → Bool} {kp : AV → FEnv → AHeap → Bool},
    within M D c = true → e.ok a → Same M D e0 e → feC call fuel ret nt c big out X e h kn kx kr kp = true → wpC F c a h (PostF e0 M D kn kx kr kp)
  | .skip, M, D, big, out, X, e0, e, a, h, kn, kx, kr, kp, _, ok, s, w => by
    rw [wpC_skip]
    exact ⟨e, ok, s, w⟩
  | .exit id, M, D, big, out, X, e0, e, a, h, kn, kx, kr, kp, _, ok, s, w => by
    rw [wpC_exit]
    exact ⟨e, ok, s, w⟩
  | .ret, M, D, big, out, X, e0, e, a, h, kn, kx, kr, kp, _, ok, s, w => by
    rw [wpC_ret]
    exact ⟨e, ok, s, w⟩
  | .reg l, M, D, big, out, X, e0, e, a, h, kn, kx, kr, kp, hw, ok, s, w => by
    rw [wpC_reg]
    exact feOps_ok hcall l e a h hw ok s w
  | .regD l, M, D, big, out, X, e0, e, a, h, kn, kx, kr, kp, hw, ok, s, w => by
    rw [wpC_regD]
    exact feD_ok hcall l hw l [] [] none e a h hw (fun _ _ _ _ h => h) ok s w
  | .seq x y, M, D, big, out, X, e0, e, a, h, kn, kx, kr, kp, hw, ok, s, w => by
    simp only [within, Bool.and_eq_true] at hw
    rw [wpC_seq]
    refine wpC_mono _ ?_ _ _ (feC_ok hcall x hw.1 ok s w)
    rintro ex a' h' ⟨e1, ok1, s1, k⟩
    cases ex with
    | norm => rw [sqP_norm]; exact feC_ok hcall y hw.2 ok1 s1 k
    | exit i => rw [sqP_exit]; exact ⟨e1, ok1, s1, k⟩
    | ret => rw [sqP_ret]; exact ⟨e1, ok1, s1, k⟩
    | pan v => rw [sqP_pan]; exact ⟨e1, ok1, s1, k⟩
  | .cond c x y, M, D, big, out, X, e0, e, a, h, kn, kx, kr, kp, hw, ok, s, w => by
    simp only [within, Bool.and_eq_true] at hw
    rw [wpC_cond]
    obtain ⟨v, hv, w1⟩ := FEnv.opd_of (show e.opd c _ = true from w)
    rw [hv a ok]
    cases big with
    | false =>
      obtain ⟨b, rfl, w2⟩ := asBool_of (show p_if v _ _ = true from w1)
      rcases ifB_of w2 with ⟨rfl, w2⟩ | ⟨rfl, w2⟩
      · rw [condP_true]; exact feC_ok hcall x hw.1 ok s w2
      · rw [condP_false]; exact feC_ok hcall y hw.2 ok s w2
    | true =>
      cases hi : within (DS x ||| DS y) false x && within (DS x ||| DS y) false y with
      | false => rw [hi] at w1; cases w1
      | true =>
        rw [hi] at w1
        simp only [Bool.and_eq_true] at hi
        obtain ⟨b, rfl, w2⟩ := asBool_of (show p_if v _ _ = true from w1)
        have hM : sub (DS x ||| DS y) M = true := sub_mk fun i q => by
          rw [Nat.testBit_or, Bool.or_eq_true] at q
          exact q.elim (DS_in hw.1 i) (DS_in hw.2 i)
        have fin : ∀ ex a' h', PostF e (DS x ||| DS y) false (fun e' h' => e'.vals (bitsL nt ((DS x ||| DS y) &&& (out ||| ret))) fun xs => kn (e.after (DS x ||| DS y) (bitsL nt ((DS x ||| DS y) &&& (out ||| ret))) xs) h') kx kr kp ex a' h' → PostF e0 M D kn kx kr kp ex a' h' := by
          intro ex a' h' p
          refine p.of s hM (fun q => by cases q) ?_ ?_
          · intro _ e1 ok1 s1 k
            obtain ⟨xs, hxs, k⟩ := FEnv.vals_of k
            exact ⟨_, after_ok ok1 s1 hxs, s.trans (Same.after (D := false) e _ xs) hM (fun q => by cases q), k⟩
          · exact fun i _ e1 ok1 s1 k => ⟨e1, ok1, s.trans s1 hM (fun q => by cases q), k⟩
        rcases ifB_of w2 with ⟨rfl, w2⟩ | ⟨rfl, w2⟩
        · rw [condP_true]
          exact wpC_mono _ fin _ _ (feC_ok hcall x hi.1 ok (Same.refl _ _ _) w2)
        · rw [condP_false]
          exact wpC_mono _ fin _ _ (feC_ok hcall y hi.2 ok (Same.refl _ _ _) w2)
  | .block id x, M, D, big, out, X, e0, e, a, h, kn, kx, kr, kp, hw, ok, s, w => by
    have hw : within M D x = true := hw
    rw [wpC_block]
    cases big with
    | false =>
      refine wpC_mono _ ?_ _ _ (feC_ok hcall x hw ok s (show feC call fuel ret nt x false out _ e h kn (fun i e' h' => cB (i.beq id) (kn e' h') (kx i e' h')) kr kp = true from w))
      rintro ex a' h' ⟨e1, ok1, s1, k⟩
      cases ex with
      | norm => rw [blP_norm]; exact ⟨e1, ok1, s1, k⟩
      | exit i =>
        rw [blP_exit]
        by_cases q : i = id
        · subst q
          rw [if_pos rfl]
          have k' : (cB (i.beq i) (kn e1 h') (kx i e1 h')) = true := k
          rw [Nat.beq_refl] at k'
          exact ⟨e1, ok1, s1, k'⟩
        · rw [if_neg q]
          have k' : (cB (i.beq id) (kn e1 h') (kx i e1 h')) = true := k
          rw [beqF q] at k'
          exact ⟨e1, ok1, s1, k'⟩
      | ret => rw [blP_ret]; exact ⟨e1, ok1, s1, k⟩
      | pan v => rw [blP_pan]; exact ⟨e1, ok1, s1, k⟩
    | true =>
      have w0 : (cB (within (DS x) false x) (joinL (fun j => feC call fuel ret nt x false out (fun i => bif i.beq id then out else X i) e h (fun e' h' => e'.vals (bitsL nt (DS x &&& (out ||| ret))) fun xs => j xs h')
            (fun i e' h' => cB (i.beq id) (e'.vals (bitsL nt (DS x &&& (out ||| ret))) fun xs => j xs h') (kx i e' h')) kr kp)
          (fun xs h' => kn (e.after (DS x) (bitsL nt (DS x &&& (out ||| ret))) xs) h')) false) = true := w
      cases hi : within (DS x) false x with
      | false => rw [hi] at w0; cases w0
      | true =>
        rw [hi] at w0
        have hM : sub (DS x) M = true := sub_mk (DS_in hw)
        refine wpC_mono _ ?_ _ _ (feC_ok hcall x hi ok (Same.refl _ _ _) w0)
        have join : ∀ e1 a' h', e1.ok a' → Same (DS x) false e e1 → (e1.vals (bitsL nt (DS x &&& (out ||| ret))) fun xs => kn (e.after (DS x) (bitsL nt (DS x &&& (out ||| ret))) xs) h') = true → PostF e0 M D kn kx kr kp .norm a' h' := by
          intro e1 a' h' ok1 s1 k
          obtain ⟨xs, hxs, k⟩ := FEnv.vals_of k
          exact ⟨_, after_ok ok1 s1 hxs, s.trans (Same.after (D := false) e _ xs) hM (fun q => by cases q), k⟩
        rintro ex a' h' ⟨e1, ok1, s1, k⟩
        cases ex with
        | norm => rw [blP_norm]; exact join e1 a' h' ok1 s1 k
        | exit i =>
          rw [blP_exit]
          by_cases q : i = id
          · subst q
            rw [if_pos rfl]
            have k' : (cB (i.beq i) _ (kx i e1 h')) = true := k
            rw [Nat.beq_refl] at k'
            exact join e1 a' h' ok1 s1 k'
          · rw [if_neg q]
            have k' : (cB (i.beq id) _ (kx i e1 h')) = true := k
            rw [beqF q] at k'
            exact ⟨e1, ok1, s.trans s1 hM (fun q => by cases q), k'⟩
        | ret => rw [blP_ret]; exact ⟨e1, ok1, s.trans s1 hM (fun q => by cases q), k⟩
        | pan v => rw [blP_pan]; exact ⟨e1, ok1, s.trans s1 hM (fun q => by cases q), k⟩
  | .loop x, M, D, big, out, X, e0, e, a, h, kn, kx, kr, kp, hw, ok, s, w => by
    have hw : within M D x = true := hw
    cases hi : within (DS x) false x with
    | false =>
      have w0 : (cB (within (DS x) false x) _ false) = true := w
      rw [hi] at w0
      cases w0
    | true =>
      have w0 : (cB (within (DS x) false x) (e.vals (bitsL nt (DS x &&& (live ret (.loop x) X 0 ||| ret))) fun xs0 =>
        loopB fuel (fun again xs h' => feC call fuel ret nt x false (live ret (.loop x) X 0) X (e.after (DS x) (bitsL nt (DS x &&& (live ret (.loop x) X 0 ||| ret))) xs) h'
          (fun e' h'' => e'.vals (bitsL nt (DS x &&& (live ret (.loop x) X 0 ||| ret))) fun ys => again ys h'') kx kr kp) xs0 h) false) = true := w
      rw [hi] at w0
      have hM : sub (DS x) M = true := sub_mk (DS_in hw)
      revert w0
      generalize bitsL nt (DS x &&& (live ret (.loop x) X 0 ||| ret)) = L
      generalize live ret (.loop x) X 0 = LV
      intro w0
      obtain ⟨xs0, hxs0, w1⟩ := FEnv.vals_of (show e.vals L _ = true from w0)
      have key : ∀ (n : Nat) (xs : List AV) (h : AHeap) (a : AAct), loopB n (fun again xs h' => feC call fuel ret nt x false LV X (e.after (DS x) L xs) h' (fun e' h'' => e'.vals L fun ys => again ys h'') kx kr kp) xs h = true → (e.after (DS x) L xs).ok a → ∃ ex a' h', EvL F x a h ex a' h' ∧ PostF e0 M D kn kx kr kp ex a' h' := by
        intro n
        induction n with
        | zero => intro xs h a q _; exact Bool.noConfusion (show false = true from q)
        | succ n ih =>
          intro xs h a q ok1
          have q' : feC call fuel ret nt x false LV X (e.after (DS x) L xs) h (fun e' h'' => e'.vals L fun ys => loopB n (fun again xs h' => feC call fuel ret nt x false LV X (e.after (DS x) L xs) h' (fun e' h'' => e'.vals L fun ys => again ys h'') kx kr kp) ys h'') kx kr kp = true := q
          obtain ⟨ex, a1, h1, ev, e1, ok2, s2, k⟩ := wpC_sound _ _ _ _ (feC_ok hcall x hi ok1 (Same.refl _ _ _) q')
          have sx : Same (DS x) false e e1 := (Same.after e L xs).trans s2 (sub_mk fun _ q => q) (fun q => q)
          cases ex with
          | norm =>
            obtain ⟨ys, hys, k⟩ := FEnv.vals_of k
            obtain ⟨ex, a2, h2, ev2, p⟩ := ih ys h1 a1 k (after_ok ok2 sx hys)
            exact ⟨ex, a2, h2, EvL.round ev ev2, p⟩
          | exit i => exact ⟨_, a1, h1, EvL.out ev (by simp), e1, ok2, s.trans sx hM (fun q => by cases q), k⟩
          | ret => exact ⟨_, a1, h1, EvL.out ev (by simp), e1, ok2, s.trans sx hM (fun q => by cases q), k⟩
          | pan v => exact ⟨_, a1, h1, EvL.out ev (by simp), e1, ok2, s.trans sx hM (fun q => by cases q), k⟩
      have h0 := key fuel xs0 h a w1 (after_ok ok (Same.refl _ _ _) hxs0)
      simp only [wpC]
      exact h0
end

/-! ### Functions -/
def retM : List RV → Nat
  | [] => 0
  | .t i :: r => 2 ^ i ||| retM r
  | .cell i _ _ :: r => 2 ^ i ||| retM r
noncomputable abbrev resQ (e : FEnv) (h : AHeap) : List RV → (List AV → Bool) → Bool
  | [], k => k []
  | .t i :: r, k => e.opd (.t i) fun v => resQ e h r fun vs => k (v :: vs)
  | .cell i true n :: r, k => e.opd (.t i) fun x => p_loadN n x h fun v _ => resQ e h r fun vs => k (v :: vs)
  | .cell i false _ :: r, k => e.opd (.t i) fun x => p_load1 x h fun v _ => resQ e h r fun vs => k (v :: vs)
theorem resQ_of {e : FEnv} {a : AAct} {h : AHeap} (ok : e.ok a) : ∀ {r : List RV} {k : List AV → Bool}, resQ e h r k = true → ∃ vs, resA a h r = some vs ∧ k vs = true
  | [], k, w => ⟨[], rfl, w⟩
  | .t i :: r, k, w => by
    obtain ⟨v, hv, w1⟩ := FEnv.opdT_of (show e.opd (.t i) _ = true from w)
    obtain ⟨vs, h1, h2⟩ := resQ_of ok w1
    exact ⟨v :: vs, by simp only [resA, hv a ok, h1], h2⟩
  | .cell i true n :: r, k, w => by
    obtain ⟨v, hv, w1⟩ := FEnv.opdT_of (show e.opd (.t i) _ = true from w)
    obtain ⟨b, o, ver, md, es, vs, cs, rfl, g1, g2, w2⟩ := p_loadN_of w1
    obtain ⟨vs', h1, h2⟩ := resQ_of ok w2
    exact ⟨_, by simp only [resA, hv a ok, h1, loadA, g1, g2, cond_true], h2⟩
  | .cell i false n :: r, k, w => by
    obtain ⟨v, hv, w1⟩ := FEnv.opdT_of (show e.opd (.t i) _ = true from w)
    obtain ⟨b, o, ver, md, es, vs, x, rfl, g1, g2, w2⟩ := p_load1_of w1
    obtain ⟨vs', h1, h2⟩ := resQ_of ok w2
    exact ⟨_, by simp only [resA, hv a ok, h1, loadA, g1, g2, cond_false], h2⟩

abbrev FDef := FuncId → List AV → Lv → AHeap → (AHeap → Bool) → Bool
noncomputable abbrev leaveB (D : FDef) (k : Lv → AHeap → Bool) : List (FuncId × List AV) → Lv → AHeap → Bool
  | [], lv, h => k lv h
  | (f, as) :: r, lv, h => D f as lv h fun h' => leaveB D k r .ret h'
def FDefOk (F : FT) (D : FDef) : Prop := ∀ f as lv h k, D f as lv h k = true → WDef F f as lv h fun h' => k h' = true
noncomputable abbrev finQ (res : List RV) (kr kp : AV → AHeap → Bool) (e : FEnv) : Lv → AHeap → Bool
  | .ret, h => resQ e h res fun vs => kr (one vs) h
  | .pan v, h => kp v h
theorem leaveB_ok {F : FT} {D : FDef} (hD : FDefOk F D) {res : List RV} {kr kp : AV → AHeap → Bool} {e : FEnv} {a : AAct} (ok : e.ok a) : ∀ {df : List (FuncId × List AV)} {lv : Lv} {h : AHeap}, leaveB D (finQ res kr kp e) df lv h = true → finLP F res (resB kr kp) a df lv h
  | [], .ret, h, w => by
    obtain ⟨vs, h1, h2⟩ := resQ_of ok (show resQ e h res _ = true from w)
    simp only [finLP, h1]
    exact h2
  | [], .pan v, h, w => by
    simp only [finLP]
    exact w
  | (f, as) :: r, lv, h, w => by
    have h1 := hD _ _ _ _ _ (show D f as lv h _ = true from w)
    simp only [finLP]
    unfold WDef at h1 ⊢
    obtain ⟨h', e1, e2⟩ := h1
    exact ⟨h', e1, leaveB_ok hD ok e2⟩

abbrev FBody := FCall → FDef → Nat → List AV → AHeap → (AV → AHeap → Bool) → (AV → AHeap → Bool) → Bool
noncomputable abbrev env0 (ar : Nat) (args : List AV) : FEnv := ⟨fun i => bif Nat.ble (i + 1) ar then some (nthV args i) else none, []⟩
theorem env0_ok {ar : Nat} {args : List AV} (h : args.length = ar) : (env0 ar args).ok ⟨initTm args 0 .nil, []⟩ := by
  refine ⟨fun i x hx => ?_, rfl⟩
  have h1 : (bif Nat.ble (i + 1) ar then some (nthV args i) else none) = some x := hx
  cases q : Nat.ble (i + 1) ar with
  | false => rw [q] at h1; cases h1
  | true =>
    rw [q] at h1
    rw [Nat.ble_eq] at q
    cases h1
    show (initTm args 0 .nil).get i = _
    rw [initTm_get, if_pos ⟨Nat.zero_le _, by omega⟩, nthV_eq, Nat.sub_zero]
    rw [List.getElem?_eq_getElem (by omega)]
    rfl
/-- A function, with so many arguments. -/
noncomputable abbrev feFun (ar : Nat) (m : MFun) : FBody := fun call D fuel args h kr kp =>
  match m with
  | .code nt body res => cB (Nat.ble ar nt && within (2 ^ nt - 1) true body) (ifB (Nat.beq (lenV args) ar) (feC call fuel (retM res) nt body false (retM res) (fun _ => 0) (env0 ar args) h
      (fun e h' => leaveB D (finQ res kr kp e) e.df .ret h') (fun _ _ _ => false) (fun e h' => leaveB D (finQ res kr kp e) e.df .ret h') (fun v e h' => leaveB D (finQ res kr kp e) e.df (.pan v) h')) false) false
  | .prim _ => false
theorem feFun_ok {F : FT} {call : FCall} {D : FDef} (hcall : FCallOk F call) (hD : FDefOk F D) {f : FuncId} {m : MFun} (hf : F f = some m) {ar fuel : Nat} {args : List AV} {h : AHeap} {kr kp : AV → AHeap → Bool} (w : feFun ar m call D fuel args h kr kp = true) : WF F f args h (resB kr kp) := by
  cases m with
  | prim p => exact Bool.noConfusion (show false = true from w)
  | code nt body res =>
    have w0 : (cB (Nat.ble ar nt && within (2 ^ nt - 1) true body) (ifB (Nat.beq (lenV args) ar) (feC call fuel (retM res) nt body false (retM res) (fun _ => 0) (env0 ar args) h
      (fun e h' => leaveB D (finQ res kr kp e) e.df .ret h') (fun _ _ _ => false) (fun e h' => leaveB D (finQ res kr kp e) e.df .ret h') (fun v e h' => leaveB D (finQ res kr kp e) e.df (.pan v) h')) false) false) = true := w
    cases q : Nat.ble ar nt && within (2 ^ nt - 1) true body with
    | false => rw [q] at w0; cases w0
    | true =>
      rw [q] at w0
      simp only [Bool.and_eq_true] at q
      obtain ⟨w1, w2⟩ := ifB_true w0
      rw [lenV_eq] at w1
      have hl : args.length = ar := Nat.eq_of_beq_eq_true w1
      refine WF.code hf (by rw [hl]; exact q.1) (wpC_mono _ ?_ _ _ (feC_ok hcall body q.2 (env0_ok hl) (Same.refl _ _ _) w2))
      rintro ex a h' ⟨e, ok, _, k⟩
      cases ex with
      | norm => simp only [finP]; rw [ok.2]; exact leaveB_ok hD ok k
      | ret => simp only [finP]; rw [ok.2]; exact leaveB_ok hD ok k
      | pan v => simp only [finP]; rw [ok.2]; exact leaveB_ok hD ok k
      | exit i => cases k
noncomputable def fePrim (p : List AV → AHeap → Option (CRes × AHeap)) : FBody := fun _ _ _ args h kr kp => match p args h with
  | some (.ret v, h') => kr v h'
  | some (.pan v, h') => kp v h'
  | none => false
theorem fePrim_ok {F : FT} {f : FuncId} {p : List AV → AHeap → Option (CRes × AHeap)} (hf : F f = some (.prim p)) {call : FCall} {D : FDef} {fuel : Nat} {args : List AV} {h : AHeap} {kr kp : AV → AHeap → Bool} (w : fePrim p call D fuel args h kr kp = true) : WF F f args h (resB kr kp) := by
  unfold fePrim at w
  split at w
  · rename_i v h' e
    exact WF.prim hf e w
  · rename_i v h' e
    exact WF.prim hf e w
  · cases w

/-- A deferred closure that asks recover first. -/
abbrev FDBody := FCall → Nat → List AV → Lv → AHeap → (AHeap → Bool) → Bool
def lvQ : Lv → AV
  | .ret => .nilIface
  | .pan v => v
abbrev ifNil (l : List (FuncId × List AV)) (K : Bool) : Bool := match l with | [] => K | _ => false
noncomputable abbrev feDef (ar : Nat) (m : MFun) : FDBody := fun call fuel args lv h k =>
  match m with
  | .code nt (.seq (.reg (⟨d, .recover, none, _⟩ :: ops)) rest) [] =>
    cB (Nat.ble ar nt && (ops.all (within1 (2 ^ nt - 1) true) && within (2 ^ nt - 1) true rest)) (ifB (Nat.beq (lenV args) ar)
      (feOps call ops ((env0 ar args).put d (lvQ lv)) h (fun e h' => feC call fuel 0 nt rest false 0 (fun _ => 0) e h' (fun e h' => ifNil e.df (k h')) (fun _ _ _ => false) (fun e h' => ifNil e.df (k h')) (fun _ _ _ => false)) (fun _ _ _ => false)) false) false
  | _ => false
theorem ifNil_of {l : List (FuncId × List AV)} {K : Bool} (h : ifNil l K = true) : l = [] ∧ K = true := by
  cases l with
  | nil => exact ⟨rfl, h⟩
  | cons a l => cases h
theorem feDef_ok {F : FT} {call : FCall} (hcall : FCallOk F call) {f : FuncId} {m : MFun} (hf : F f = some m) {ar fuel : Nat} {args : List AV} {lv : Lv} {h : AHeap} {k : AHeap → Bool} (w : feDef ar m call fuel args lv h k = true) : WDef F f args lv h fun h' => k h' = true := by
  unfold feDef at w
  split at w
  · rename_i nt d b ops rest
    cases q : Nat.ble ar nt && (ops.all (within1 (2 ^ nt - 1) true) && within (2 ^ nt - 1) true rest) with
    | false => rw [q] at w; cases w
    | true =>
      rw [q] at w
      simp only [Bool.and_eq_true] at q
      obtain ⟨w1, w2⟩ := ifB_true w
      rw [lenV_eq] at w1
      have hl : args.length = ar := Nat.eq_of_beq_eq_true w1
      have hlv : lvQ lv = lv.val := by cases lv <;> rfl
      rw [hlv] at w2
      refine WDef.code hf (by rw [hl]; exact q.1) (wpOps_mono ?_ _ _ _ (feOps_ok (M := 2 ^ nt - 1) (D := true) (kx := fun _ _ _ => false) (kr := fun _ _ => false) hcall ops _ _ _ q.2.1 ((env0_ok hl).put d lv.val) (Same.refl _ _ _) w2))
      rintro ex a h' ⟨e, ok, _, k1⟩
      cases ex with
      | norm =>
        simp only [defP0]
        refine wpC_mono _ ?_ _ _ (feC_ok (M := 2 ^ nt - 1) (D := true) hcall rest q.2.2 ok (Same.refl _ _ _) k1)
        rintro ex a2 h2 ⟨e2, ok2, _, k2⟩
        cases ex with
        | norm => obtain ⟨g1, g2⟩ := ifNil_of k2; simp only [defP]; exact ⟨by rw [ok2.2]; exact g1, g2⟩
        | ret => obtain ⟨g1, g2⟩ := ifNil_of k2; simp only [defP]; exact ⟨by rw [ok2.2]; exact g1, g2⟩
        | exit i => cases k2
        | pan v => cases k2
      | exit i => cases k1
      | ret => cases k1
      | pan v => cases k1
  · cases w

/-! ### Calls -/
inductive FEntry where
  | fn (b : FBody)
  | df (b : FDBody)
def gNilE (_ : Nat) : Option FEntry := none
noncomputable def gNodeE (_ : Tr FEntry) (v : Option FEntry) (_ : Tr FEntry) (ihl ihr : Nat → Option FEntry) (n : Nat) : Option FEntry :=
  @Bool.rec (fun _ => Option FEntry) (@Bool.rec (fun _ => Option FEntry) (ihr (Nat.sub (Nat.div n (nat_lit 2)) (nat_lit 1))) (ihl (Nat.div n (nat_lit 2))) (Nat.beq (Nat.mod n (nat_lit 2)) (nat_lit 1))) v (Nat.beq n (nat_lit 0))
noncomputable def getE (t : Tr FEntry) : Nat → Option FEntry := @Tr.rec FEntry (fun _ => Nat → Option FEntry) gNilE gNodeE t
theorem getE_eq : ∀ (t : Tr FEntry) (n : Nat), getE t n = t.get n
  | .nil, n => by simp only [Tr.get]; rfl
  | .node l v r, n => by
    show gNodeE l v r (getE l) (getE r) n = _
    unfold gNodeE Tr.get
    rw [getE_eq l, getE_eq r]
    show _ = bif Nat.beq n 0 then v else bif Nat.beq (n % 2) 1 then l.get (n / 2) else r.get (n / 2 - 1)
    cases Nat.beq n 0
    · show @Bool.rec (fun _ => Option FEntry) _ _ (Nat.beq (n % 2) 1) = _
      cases Nat.beq (n % 2) 1 <;> rfl
    · rfl
noncomputable def onFn (x : Option FEntry) (f : FBody → Bool) : Bool := @Option.rec FEntry (fun _ => Bool) false (fun x => @FEntry.rec (fun _ => Bool) f (fun _ => false) x) x
noncomputable def onDf (x : Option FEntry) (f : FDBody → Bool) : Bool := @Option.rec FEntry (fun _ => Bool) false (fun x => @FEntry.rec (fun _ => Bool) (fun _ => false) f x) x
theorem onFn_of {x : Option FEntry} {f : FBody → Bool} (h : onFn x f = true) : ∃ b, x = some (.fn b) ∧ f b = true := by
  cases x with
  | none => exact Bool.noConfusion (show false = true from h)
  | some x => cases x with
    | fn b => exact ⟨b, rfl, h⟩
    | df b => exact Bool.noConfusion (show false = true from h)
theorem onDf_of {x : Option FEntry} {f : FDBody → Bool} (h : onDf x f = true) : ∃ b, x = some (.df b) ∧ f b = true := by
  cases x with
  | none => exact Bool.noConfusion (show false = true from h)
  | some x => cases x with
    | df b => exact ⟨b, rfl, h⟩
    | fn b => exact Bool.noConfusion (show false = true from h)
noncomputable def feCall (T : Tr FEntry) (k : Nat) : FCall :=
  @Nat.rec (fun _ => FCall) (fun _ _ _ _ _ => false) (fun k ih f args h kr kp => onFn (getE T f) fun b => b ih (fun f as lv h kk => onDf (getE T f) fun b => b ih k as lv h kk) k args h kr kp) k
/-- What an entry is to tell. -/
def EOk (F : FT) (f : Nat) : FEntry → Prop
  | .fn b => ∀ call D, FCallOk F call → FDefOk F D → ∀ k args h kr kp, b call D k args h kr kp = true → WF F f args h (resB kr kp)
  | .df b => ∀ call, FCallOk F call → ∀ k as lv h kk, b call k as lv h kk = true → WDef F f as lv h fun h' => kk h' = true
def TOk (F : FT) (T : Tr FEntry) : Prop := ∀ f x, T.get f = some x → EOk F f x
theorem feCall_ok {F : FT} {T : Tr FEntry} (hT : TOk F T) : ∀ k, FCallOk F (feCall T k)
  | 0 => fun f args h kr kp w => Bool.noConfusion (show false = true from w)
  | k + 1 => fun f args h kr kp w => by
    obtain ⟨b, e, w1⟩ := onFn_of (show onFn (getE T f) _ = true from w)
    rw [getE_eq] at e
    refine hT f _ e _ _ (feCall_ok hT k) (fun g as lv h' kk q => ?_) _ _ _ _ _ w1
    obtain ⟨b', e', w2⟩ := onDf_of q
    rw [getE_eq] at e'
    exact hT g _ e' _ (feCall_ok hT k) _ _ _ _ _ w2
theorem EOk.fn {F : FT} {f : Nat} {m : MFun} (hf : F f = some m) {ar : Nat} {b : FBody} (hb : feFun ar m = b) : EOk F f (.fn b) := by
  subst hb
  exact fun call D hc hD k args h kr kp w => feFun_ok hc hD hf w
theorem EOk.df {F : FT} {f : Nat} {m : MFun} (hf : F f = some m) {ar : Nat} {b : FDBody} (hb : feDef ar m = b) : EOk F f (.df b) := by
  subst hb
  exact fun call hc k as lv h kk w => feDef_ok hc hf w
theorem EOk.prim {F : FT} {f : Nat} {p : List AV → AHeap → Option (CRes × AHeap)} (hf : F f = some (.prim p)) : EOk F f (.fn (fePrim p)) := fun call D hc hD k args h kr kp w => fePrim_ok hf w
/-! Short names for printed texts -/
noncomputable def vi (n : Nat) : AV := .int .i64 (.ofNat n)
noncomputable def vT : AV := .bool true
noncomputable def vF : AV := .bool false
noncomputable def vS : AV := .str []
end Go.Ev
