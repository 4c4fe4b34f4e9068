/- The first blocks of memory; the statements' example as a primitive; the fast evaluator's answers as weakest preconditions. -/
import Derived.Test.YtmlgcmeccofopaaGreatDoorEvC
import Derived.Test.YtmlgcmeccofopaaGreatDoorPrims
set_option linter.all false
set_option linter.unusedVariables false
set_option linter.unusedSimpArgs false
namespace Go.Ev
open Go
set_option maxRecDepth 100000

/-- The errors' texts, by the variables' numbers. -/
def txts : List (List UInt8) := [[115, 116, 111, 99, 107, 97, 100, 101, 58, 32, 99, 111, 100, 101], [115, 116, 111, 99, 107, 97, 100, 101, 58, 32, 110, 111, 110, 101], [115, 116, 111, 99, 107, 97, 100, 101, 58, 32, 114, 97, 110, 103, 101], [115, 116, 111, 99, 107, 97, 100, 101, 58, 32, 116, 101, 120, 116], [115, 116, 111, 99, 107, 97, 100, 101, 58, 32, 100, 101, 112, 116, 104], [115, 116, 111, 99, 107, 97, 100, 101, 58, 32, 110, 97, 109, 101], [115, 116, 111, 99, 107, 97, 100, 101, 58, 32, 116, 121, 112, 101], [115, 116, 111, 99, 107, 97, 100, 101, 58, 32, 108, 97, 114, 103, 101], [115, 116, 111, 99, 107, 97, 100, 101, 58, 32, 102, 117, 108, 108], [115, 116, 111, 99, 107, 97, 100, 101, 58, 32, 115, 116, 97, 116, 101], [115, 116, 111, 99, 107, 97, 100, 101, 58, 32, 102, 114, 97, 109, 101], [115, 116, 111, 99, 107, 97, 100, 101, 58, 32, 109, 97, 99], [115, 116, 111, 99, 107, 97, 100, 101, 58, 32, 114, 101, 112, 108, 97, 121], [115, 116, 111, 99, 107, 97, 100, 101, 58, 32, 97, 114, 101, 110, 97], [115, 116, 111, 99, 107, 97, 100, 101, 58, 32, 99, 108, 111, 99, 107], [115, 116, 111, 99, 107, 97, 100, 101, 58, 32, 113, 117, 111, 116, 97], [115, 116, 111, 99, 107, 97, 100, 101, 58, 32, 116, 101, 110, 97, 110, 116]]
def txt (g : Nat) : List UInt8 := txts.getD g []
noncomputable def hq : AHeap := heap0 238 21 17 txt 0 (fun _ => .dead)
theorem hq_get (b : Nat) : hq.get b = if b < 21 + 17 then (if b < 17 then some ⟨0, .cells .ro 0 [.iface 238 (.ptr (21 + b) 0)]⟩ else if b < 21 then some ⟨0, .dead⟩ else some ⟨0, .cells .sent 0 [.str (txt (b - 21))]⟩) else none := by
  unfold hq
  rw [heap0_get]
  by_cases h : b < 21 + 17
  · by_cases h1 : b < 17
    · simp only [Nat.add_zero, h, h1, if_true]
    · by_cases h2 : b < 21
      · simp only [Nat.add_zero, h, h1, h2, if_true, if_false]
      · simp only [Nat.add_zero, h, h1, h2, if_true, if_false]
  · simp only [Nat.add_zero, h, if_false]
theorem lowOk : LowOk hq where
  lt := fun b x h => by
    rw [hq_get] at h
    split at h
    · show b < hq.n
      have : hq.n = 21 + 17 := rfl
      omega
    · cases h
  all := fun b hb => by
    have hn : hq.n = 21 + 17 := rfl
    rw [hq_get, if_pos (by omega)]
    by_cases h1 : b < 17
    · rw [if_pos h1]
      refine ⟨_, rfl, .inr (.inl ⟨_, _, rfl, ⟨0, .cells .sent 0 [.str (txt b)]⟩, ?_, fun q => by cases q⟩)⟩
      rw [hq_get, if_pos (by omega), if_neg (by omega), if_neg (by omega), Nat.add_sub_cancel_left]
    · rw [if_neg h1]
      by_cases h2 : b < 21
      · rw [if_pos h2]; exact ⟨_, rfl, .inl rfl⟩
      · rw [if_neg h2]; exact ⟨_, rfl, .inr (.inr ⟨_, rfl⟩)⟩
theorem LowEq.refl (h : AHeap) : LowEq h h := ⟨Nat.le_refl _, fun _ _ e => .inr e⟩

/-- The example's answer. -/
def gAl : List AV → Option AV
  | [] => some (.bool true)
  | _ => none
noncomputable def pAl : List AV → AHeap → Option (CRes × AHeap) := runP hq gAl
noncomputable def isT (v : AV) (_ : AHeap) : Bool := asBool (fun b => b) v
noncomputable def noB (_ : AV) (_ : AHeap) : Bool := false

/-- A body run on the table. -/
noncomputable def feDefs (T : Tr FEntry) (k : Nat) : FDef := fun f as lv h kk => onDf (getE T f) fun b => b (feCall T k) k as lv h kk
theorem feDefs_ok {F : FT} {T : Tr FEntry} (hT : TOk F T) (k : Nat) : FDefOk F (feDefs T k) := fun g as lv h' kk q => by
  obtain ⟨b', e', w2⟩ := onDf_of q
  rw [getE_eq] at e'
  exact hT g _ e' _ (feCall_ok hT k) _ _ _ _ _ w2
theorem fe_run {F : FT} {T : Tr FEntry} (hT : TOk F T) {f : FuncId} {m : MFun} (hf : F f = some m) {ar : Nat} {b : FBody} (hb : feFun ar m = b) {k : Nat} {args : List AV} {h : AHeap} {kr kp : AV → AHeap → Bool} (w : b (feCall T k) (feDefs T k) k args h kr kp = true) : WF F f args h (resB kr kp) := by
  subst hb
  exact feFun_ok (feCall_ok hT k) (feDefs_ok hT k) hf w
/-- The values of some temporaries. -/
def envL : List (Nat × AV) → FEnv
  | [] => ⟨fun _ => none, []⟩
  | (i, v) :: r => (envL r).put (some i) v
theorem envL_ok {tm : Tr AV} : ∀ {l : List (Nat × AV)}, (∀ p ∈ l, tm.get p.1 = some p.2) → (envL l).ok ⟨tm, []⟩
  | [], _ => ⟨fun i x h => (by cases h), rfl⟩
  | (i, v) :: r, h => by
    refine ⟨fun j x hx => ?_, ?_⟩
    · have hx' : (bif j.beq i then some v else (envL r).v j) = some x := hx
      by_cases q : j = i
      · subst q
        rw [Nat.beq_refl] at hx'
        cases hx'
        exact h (j, v) (by simp)
      · rw [beqF q] at hx'
        exact (envL_ok (l := r) fun p hp => h p (by simp [hp])).1 j x hx'
    · exact (envL_ok (l := r) fun p hp => h p (by simp [hp])).2
/-- What is left of a body, run with the temporaries that count. -/
noncomputable def feRest (T : Tr FEntry) (k nt : Nat) (res : List RV) (c : MCode) (l : List (Nat × AV)) (h : AHeap) : Bool :=
  feC (feCall T k) k (retM res) nt c false (retM res) (fun _ => 0) (envL l) h
    (fun e h' => leaveB (feDefs T k) (finQ res isT noB e) e.df .ret h') (fun _ _ _ => false) (fun e h' => leaveB (feDefs T k) (finQ res isT noB e) e.df .ret h') (fun v e h' => leaveB (feDefs T k) (finQ res isT noB e) e.df (.pan v) h')
theorem isT_of {r : CRes} {h : AHeap} (q : resB isT noB r h) : r = .ret (.bool true) := by
  cases r with
  | ret v =>
    obtain ⟨b, rfl, e⟩ := asBool_of (show asBool (fun b => b) v = true from q)
    rw [show b = true from e]
  | pan v => exact Bool.noConfusion (show false = true from q)
theorem finLP_mono {F : FT} {res : List RV} {Q Q' : QR} (hq : ∀ r h, Q r h → Q' r h) {a : AAct} : ∀ {df : List (FuncId × List AV)} {lv : Lv} {h : AHeap}, finLP F res Q a df lv h → finLP F res Q' a df lv h
  | [], .ret, h, w => by
    simp only [finLP] at w ⊢
    split at w
    · exact hq _ _ w
    · exact w.elim
  | [], .pan v, h, w => by
    simp only [finLP] at w ⊢
    exact hq _ _ w
  | (f, as) :: r, lv, h, w => by
    simp only [finLP] at w ⊢
    unfold WDef at w ⊢
    obtain ⟨h', e1, e2⟩ := w
    exact ⟨h', e1, finLP_mono hq e2⟩
theorem fe_rest {F : FT} {T : Tr FEntry} (hT : TOk F T) {k nt : Nat} {res : List RV} {c : MCode} {l : List (Nat × AV)} {tm : Tr AV} {h : AHeap} (hw : within (2 ^ nt - 1) true c = true) (ok : ∀ p ∈ l, tm.get p.1 = some p.2) (w : feRest T k nt res c l h = true) : wpC F c ⟨tm, []⟩ h (finP F res (fun r _ => r = .ret (.bool true))) := by
  refine wpC_mono _ ?_ _ _ (feC_ok (M := 2 ^ nt - 1) (D := true) (feCall_ok hT k) c hw (envL_ok ok) (Same.refl _ _ _) w)
  rintro ex a h' ⟨e, ok, _, k1⟩
  have fin : ∀ lv, leaveB (feDefs T k) (finQ res isT noB e) e.df lv h' = true → finLP F res (fun r _ => r = .ret (.bool true)) a a.df lv h' := fun lv q => by
    rw [ok.2]
    exact finLP_mono (fun r h q => isT_of q) (leaveB_ok (feDefs_ok hT k) ok q)
  cases ex with
  | norm => simp only [finP]; exact fin _ k1
  | ret => simp only [finP]; exact fin _ k1
  | pan v => simp only [finP]; exact fin _ k1
  | exit i => cases k1
end Go.Ev
