/- The statement on binary operators. -/
import Derived.Test.YtmlgcmeccofopaaGreatDoorTKt0
import Derived.Test.YtmlgcmeccofopaaGreatDoorTKt1
import Derived.Test.YtmlgcmeccofopaaGreatDoorTKt2
import Derived.Test.YtmlgcmeccofopaaGreatDoorTKt3
import Derived.Test.YtmlgcmeccofopaaGreatDoorTKt4
import Derived.Test.YtmlgcmeccofopaaGreatDoorTKt5
import Derived.Test.YtmlgcmeccofopaaGreatDoorTKt6
set_option linter.all false
set_option linter.unusedVariables false
set_option linter.unusedSimpArgs false
namespace Go.Ev
open Go
theorem two_all : ∀ k, k < 13 → Two k := fun k hk => by
  match k, hk with
  | 0, _ => exact two_0
  | 1, _ => exact two_1
  | 2, _ => exact two_2
  | 3, _ => exact two_3
  | 4, _ => exact two_4
  | 5, _ => exact two_5
  | 6, _ => exact two_6
  | 7, _ => exact two_7
  | 8, _ => exact two_8
  | 9, _ => exact two_9
  | 10, _ => exact two_10
  | 11, _ => exact two_11
  | 12, _ => exact two_12
theorem two_walk {n0 n1 n2 n3 : Int} : WF F 7 [.agg [.int .i64 n0, .int .i64 n1, .int .i64 n2, .int .i64 n3]] hq (fun r _ => r = .ret (.bool true)) := two_law two_all
end Go.Ev
