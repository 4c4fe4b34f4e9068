/- The statement on locals. -/
import Derived.Test.YtmlgcmeccofopaaGreatDoorSKs00
import Derived.Test.YtmlgcmeccofopaaGreatDoorSKs01
import Derived.Test.YtmlgcmeccofopaaGreatDoorSKs02
import Derived.Test.YtmlgcmeccofopaaGreatDoorSKs03
import Derived.Test.YtmlgcmeccofopaaGreatDoorSKs04
import Derived.Test.YtmlgcmeccofopaaGreatDoorSKs10
import Derived.Test.YtmlgcmeccofopaaGreatDoorSKs11
import Derived.Test.YtmlgcmeccofopaaGreatDoorSKs12
import Derived.Test.YtmlgcmeccofopaaGreatDoorSKs13
import Derived.Test.YtmlgcmeccofopaaGreatDoorSKs14
import Derived.Test.YtmlgcmeccofopaaGreatDoorSKs20
import Derived.Test.YtmlgcmeccofopaaGreatDoorSKs21
import Derived.Test.YtmlgcmeccofopaaGreatDoorSKs22
import Derived.Test.YtmlgcmeccofopaaGreatDoorSKs23
import Derived.Test.YtmlgcmeccofopaaGreatDoorSKs24
import Derived.Test.YtmlgcmeccofopaaGreatDoorSKs30
import Derived.Test.YtmlgcmeccofopaaGreatDoorSKs31
import Derived.Test.YtmlgcmeccofopaaGreatDoorSKs32
import Derived.Test.YtmlgcmeccofopaaGreatDoorSKs33
import Derived.Test.YtmlgcmeccofopaaGreatDoorSKs34
import Derived.Test.YtmlgcmeccofopaaGreatDoorSKs40
import Derived.Test.YtmlgcmeccofopaaGreatDoorSKs41
import Derived.Test.YtmlgcmeccofopaaGreatDoorSKs42
import Derived.Test.YtmlgcmeccofopaaGreatDoorSKs43
import Derived.Test.YtmlgcmeccofopaaGreatDoorSKs44
set_option linter.all false
set_option linter.unusedVariables false
set_option linter.unusedSimpArgs false
namespace Go.Ev
open Go
theorem locals_all : ∀ many b, many < 40 → b < 5 → run5 many (1 + b) = true := by
  intro m b hm hb
  have h : b = 0 ∨ b = 1 ∨ b = 2 ∨ b = 3 ∨ b = 4 := by omega
  have k : m < 8 ∨ (8 ≤ m ∧ m < 16) ∨ (16 ≤ m ∧ m < 24) ∨ (24 ≤ m ∧ m < 32) ∨ (32 ≤ m ∧ m < 40) := by omega
  rcases h with rfl | rfl | rfl | rfl | rfl <;> rcases k with k | ⟨k, k'⟩ | ⟨k, k'⟩ | ⟨k, k'⟩ | ⟨k, k'⟩
  · exact s5_0_0 (Nat.zero_le _) k
  · exact s5_1_0 k k'
  · exact s5_2_0 k k'
  · exact s5_3_0 k k'
  · exact s5_4_0 k k'
  · exact s5_0_1 (Nat.zero_le _) k
  · exact s5_1_1 k k'
  · exact s5_2_1 k k'
  · exact s5_3_1 k k'
  · exact s5_4_1 k k'
  · exact s5_0_2 (Nat.zero_le _) k
  · exact s5_1_2 k k'
  · exact s5_2_2 k k'
  · exact s5_3_2 k k'
  · exact s5_4_2 k k'
  · exact s5_0_3 (Nat.zero_le _) k
  · exact s5_1_3 k k'
  · exact s5_2_3 k k'
  · exact s5_3_3 k k'
  · exact s5_4_3 k k'
  · exact s5_0_4 (Nat.zero_le _) k
  · exact s5_1_4 k k'
  · exact s5_2_4 k k'
  · exact s5_3_4 k k'
  · exact s5_4_4 k k'
theorem locals_walk {n0 n1 : Int} : WF F 5 [.int .i64 n0, .int .i64 n1] hq (fun r _ => r = .ret (.bool true)) := locals_law locals_all
end Go.Ev
