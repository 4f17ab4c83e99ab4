/-
  Walk: the law FnExactConstants returns true.
-/
import Derived.Test.YthjmjnekimkflaaProg
import Derived.Test.YthjmjnekimkflaaKit
namespace Go.Proofs.Ythjmjnekimkflaa
open Go.RowKit
theorem law_FnExactConstants (w : World) : Calls Try.prog 3 #[] w (RetPure w (.bool true)) := by
  go_enter Try.func3, Try.ntmps3
  go_wp2
  go_ret
  exact ⟨rfl, Below.refl _ _⟩
end Go.Proofs.Ythjmjnekimkflaa
