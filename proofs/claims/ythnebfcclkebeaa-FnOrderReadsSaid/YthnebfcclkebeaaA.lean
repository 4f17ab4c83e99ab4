/-
  Walk: the fixed answer that the laws ask for (alive).
-/
import Derived.Test.YthnebfcclkebeaaD2
namespace Go.Proofs.Ythnebfcclkebeaa
open Go.RowKit
theorem alive_any (w : World) : Calls Try.prog 31 #[] w (RetPure w (.bool true)) := by
  have hs : Sees (w.alloc (.cells #[.int .i64 1] 3)) (w.heap.size + 1) 1 (some ⟨w.heap.size, 0, none⟩) 1 1 (ints [1]) := Sees.one w 3 (.int .i64 1)
  have hd : dsum [1] = 34 := by decide
  go_enter Try.func31, Try.ntmps31
  go_wp2_with (go_at_call 59; refine (implDiskSum_any _ _ _ _ _ _ hs).mono ?_; rintro e w' ⟨rfl, rfl⟩)
  go_ret
  exact ⟨rfl, (Below.refl _ _).alloc (Nat.le_refl _) _⟩
end Go.Proofs.Ythnebfcclkebeaa
