/-
  Walks: CommandValid of the program and of the reference.
-/
import Derived.Test.YthnebfcclkebeaaD1
import Derived.Test.YthnebfcclkebeaaPlainC
namespace Go.Proofs.Ythnebfcclkebeaa
open Go.RowKit

theorem specCommandValid_any (k p n v size : Int) (w : World) (hsz : size ≤ 9223372036854775807) :
    Calls Try.prog 61 #[.agg #[.int .i64 k, .int .i64 p, .int .i64 n, .int .i64 v], .int .i64 size] w (RetPure w (.bool (cval ⟨k, p, n, v⟩ size))) := by
  go_enter Try.func61, Try.ntmps61
  go_wp2_with (first | (go_at_call 62; refine (l1In_any _ _ _ _).mono ?_; rintro e w' ⟨rfl, rfl⟩) | (go_at_call 76; refine (l1Range_any _ _ _ _ (by omega)).mono ?_; rintro e w' ⟨rfl, rfl⟩))
  all_goals
    go_ret
    refine ⟨ret_bool ?_, below_new _ _⟩
    rw [Bool.eq_iff_iff, cval_iff]
    simp only [win_iff, strch_iff, beq_iff_eq, bne_iff_ne, ne_eq, beq_eq_false_iff_ne, bne_eq_false_iff_eq, Bool.false_eq_true, false_iff] at *
    omega
theorem implCommandValid_any (k p n v size : Int) (w : World) (hsz : size ≤ 9223372036854775807) :
    Calls Try.prog 65 #[.agg #[.int .i64 k, .int .i64 p, .int .i64 n, .int .i64 v], .int .i64 size] w (RetPure w (.bool (cval ⟨k, p, n, v⟩ size))) := by
  go_enter Try.func65, Try.ntmps65
  go_wp2_with (first | (go_at_call 63; refine (within_any _ _ _ _).mono ?_; rintro e w' ⟨rfl, rfl⟩) | (go_at_call 77; refine (isStretch_any _ _ _ _ (by omega)).mono ?_; rintro e w' ⟨rfl, rfl⟩))
  all_goals
    go_ret
    refine ⟨ret_bool ?_, below_new _ _⟩
    rw [Bool.eq_iff_iff, cval_iff]
    simp only [Bool.not_eq_true', Bool.not_eq_false', win_iff, win_no, strch_iff, beq_iff_eq, beq_eq_false_iff_ne, ne_eq, Bool.false_eq_true, false_iff, true_iff] at *
    omega
end Go.Proofs.Ythnebfcclkebeaa
