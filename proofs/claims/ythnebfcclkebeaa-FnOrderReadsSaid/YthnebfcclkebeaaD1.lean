/-
  Walks: the small tests (within, l1In, isStretch, l1Range) return what 'win' and 'strch' say; they read and write no memory.
-/
import Derived.Test.YthnebfcclkebeaaProg
import Derived.Test.YthnebfcclkebeaaKit
import Derived.Test.YthnebfcclkebeaaPlainD
namespace Go.Proofs.Ythnebfcclkebeaa
open Go.RowKit

theorem win_t {n lo hi : Int} (h : lo ≤ n) : decide (n ≤ hi) = win n lo hi := by simp [win, h]
theorem win_f {n lo hi : Int} (h : n < lo) : false = win n lo hi := by simp only [win]; rw [decide_eq_false (by omega)]; rfl
theorem ret_bool {a b : Bool} (h : a = b) : Ending.returned (.bool a) = .returned (.bool b) := by rw [h]
theorem ret_int {a b : Int} (h : a = b) : Ending.returned (.int .i64 a) = .returned (.int .i64 b) := by rw [h]
theorem within_any (n lo hi : Int) (w : World) : Calls Try.prog 63 #[.int .i64 n, .int .i64 lo, .int .i64 hi] w fun e w' => e = .returned (.bool (win n lo hi)) ∧ w = w' := by
  go_enter Try.func63, Try.ntmps63
  go_wp2
  · go_ret; exact ⟨ret_bool (win_t ‹_›), rfl⟩
  · go_ret; exact ⟨ret_bool (win_f ‹_›), rfl⟩
theorem l1In_any (n lo hi : Int) (w : World) : Calls Try.prog 62 #[.int .i64 n, .int .i64 lo, .int .i64 hi] w fun e w' => e = .returned (.bool (win n lo hi)) ∧ w = w' := by
  go_enter Try.func62, Try.ntmps62
  go_wp2
  · go_ret; exact ⟨ret_bool (win_t ‹_›), rfl⟩
  · go_ret; exact ⟨ret_bool (win_f ‹_›), rfl⟩
theorem isStretch_any (a c n : Int) (w : World) (hm : n ≤ 9223372036854775807) : Calls Try.prog 77 #[.int .i64 a, .int .i64 c, .int .i64 n] w fun e w' => e = .returned (.bool (strch a c n)) ∧ w = w' := by
  cases hb : win a 0 n with
  | true =>
    have hi := (win_iff _ _ _).1 hb
    have hs : strch a c n = win c 0 (n - a) := by simp [strch, hb]
    rw [hs]; clear hs
    go_enter Try.func77, Try.ntmps77
    go_wp2_with (go_at_call 63; refine (within_any _ _ _ _).mono ?_; rintro e w' ⟨rfl, rfl⟩)
    go_ret
    exact ⟨rfl, rfl⟩
  | false =>
    have hs : strch a c n = false := by simp [strch, hb]
    rw [hs]; clear hs
    go_enter Try.func77, Try.ntmps77
    go_wp2_with (go_at_call 63; refine (within_any _ _ _ _).mono ?_; rintro e w' ⟨rfl, rfl⟩)
    go_ret
    exact ⟨rfl, rfl⟩
theorem l1Range_any (a c n : Int) (w : World) (hm : n ≤ 9223372036854775807) : Calls Try.prog 76 #[.int .i64 a, .int .i64 c, .int .i64 n] w fun e w' => e = .returned (.bool (strch a c n)) ∧ w = w' := by
  cases hb : win a 0 n with
  | true =>
    have hi := (win_iff _ _ _).1 hb
    have hs : strch a c n = win c 0 (n - a) := by simp [strch, hb]
    rw [hs]; clear hs
    go_enter Try.func76, Try.ntmps76
    go_wp2_with (go_at_call 62; refine (l1In_any _ _ _ _).mono ?_; rintro e w' ⟨rfl, rfl⟩)
    go_ret
    exact ⟨rfl, rfl⟩
  | false =>
    have hs : strch a c n = false := by simp [strch, hb]
    rw [hs]; clear hs
    go_enter Try.func76, Try.ntmps76
    go_wp2_with (go_at_call 62; refine (l1In_any _ _ _ _).mono ?_; rintro e w' ⟨rfl, rfl⟩)
    go_ret
    exact ⟨rfl, rfl⟩
end Go.Proofs.Ythnebfcclkebeaa
