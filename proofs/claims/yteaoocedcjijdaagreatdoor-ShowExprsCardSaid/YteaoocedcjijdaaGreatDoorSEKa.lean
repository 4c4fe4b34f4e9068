/- The statement's example, run once. -/
import Derived.Test.YteaoocedcjijdaaGreatDoorSEQE
set_option linter.all false
set_option linter.unusedVariables false
set_option linter.unusedSimpArgs false
namespace Go.Ev
open Go
set_option maxRecDepth 100000
theorem F0A {f:Nat} {m:MFun} (h:tbl.get f=some m):F0 f=some m:=by
 unfold F0
 by_cases e:f=fAl
 ·subst e
  rw[tA] at h
  cases h
 ·rw[beqF e]
  exact h
theorem FA {f:Nat} {m:MFun} (h:tbl.get f=some m):F f=some m:=by
 unfold F
 by_cases e:f=fAl
 ·subst e
  rw[tA] at h
  cases h
 ·rw[beqF e]
  exact h
theorem alive_run:h20 (feCall ftbl 60) (feDefs ftbl 60) 60 [] hq okT noB=true:=by kernel_rfl
theorem alive_ev:∃k h1,evCall F0 k fAl [] hq=some (.ret (.bool true),h1):=by
 have w:WF F0 fAl [] hq (resB okT noB):=fe_run (ftbl_ok fun f m h=>F0A h) (m:=mAl) rfl e20 alive_run
 obtain ⟨r,h',⟨k0,e⟩,q⟩:=w.ev
 rw[isT_of q] at e
 exact ⟨k0,h',e k0 (Nat.le_refl _)⟩
theorem gAl_ok:∀args r,gAl args=some r→PlainL args∧Plain r∧∃k h1,evCall F0 k fAl args hq=some (.ret r,h1):=by
 intro args r e
 cases args with
 | nil=>
  cases e
  exact ⟨plainL_nil,plain_bool true,alive_ev⟩
 | cons a l=>cases e
theorem alive_spec {Q:QR} {h:AHeap} (hl:LowEq hq h) (hQ:Q (.ret (.bool true)) h):WF F fAl [] h Q:=WF.prim (p:=pAl) rfl (runP_eq rfl hl) hQ
end Go.Ev
