/-
  Walk: the law FnExactCommandsClash returns true.
-/
import Derived.Test.YtmdkihinhoclbaaC3
namespace Go.Proofs.Ytmdkihinhoclbaa
open Go.RowKit
set_option maxHeartbeats 4000000 in
theorem law_FnExactCommandsClash (w : World) (k p n v k' p' n' v' : Int) :
    Calls Try.prog 5 #[.agg #[.int .i64 k, .int .i64 p, .int .i64 n, .int .i64 v], .agg #[.int .i64 k', .int .i64 p', .int .i64 n', .int .i64 v']] w (RetPure w (.bool true)) := by
  go_enter Try.func5, Try.ntmps5
  go_wp2_with fail
  have hX := BX2.start w (.cells #[.int .i64 k, .int .i64 p, .int .i64 n, .int .i64 v] 23) (.cells #[.int .i64 k', .int .i64 p', .int .i64 n', .int .i64 v'] 23)
  generalize hW : ((w.alloc (.cells #[.int .i64 k, .int .i64 p, .int .i64 n, .int .i64 v] 23)).alloc (.cells #[.int .i64 k', .int .i64 p', .int .i64 n', .int .i64 v'] 23)) = W at *
  clear hW
  obtain ⟨⟨m0, m1, m2, m3⟩, l0, l1, l2, l3⟩ := hX.cells
  go_region_with
    (first
      | (go_at_call_of 15 (Value.agg #[Value.int IntKind.i64 k, Value.int IntKind.i64 p, Value.int IntKind.i64 n, Value.int IntKind.i64 v]); refine (toCommand_any ⟨k, p, n, v⟩ _).mono ?_; rintro e w1 ⟨rfl, b1⟩; try simp only [cmdV]; (first | replace hX := hX.keep b1 | replace hX := hX.drew.keep b1); clear b1 m0 m1 m2 m3 l0 l1 l2 l3; obtain ⟨⟨m0, m1, m2, m3⟩, l0, l1, l2, l3⟩ := hX.cells)
      | (go_at_call_of 15 (Value.agg #[Value.int IntKind.i64 k', Value.int IntKind.i64 p', Value.int IntKind.i64 n', Value.int IntKind.i64 v']); refine (toCommand_any ⟨k', p', n', v'⟩ _).mono ?_; rintro e w1 ⟨rfl, b1⟩; try simp only [cmdV]; (first | replace hX := hX.keep b1 | replace hX := hX.drew.keep b1); clear b1 m0 m1 m2 m3 l0 l1 l2 l3; obtain ⟨⟨m0, m1, m2, m3⟩, l0, l1, l2, l3⟩ := hX.cells)
      | (go_at_call 19; refine (specCommandsClash_any ⟨k, p, n, v⟩ ⟨k', p', n', v'⟩ _).mono ?_; rintro e w1 ⟨rfl, b1⟩; (first | replace hX := hX.keep b1 | replace hX := hX.drew.keep b1); clear b1 m0 m1 m2 m3 l0 l1 l2 l3; obtain ⟨⟨m0, m1, m2, m3⟩, l0, l1, l2, l3⟩ := hX.cells))
  all_goals
    go_wp2_with fail
    go_region_with
      (first
        | (go_at_call_of 15 (Value.agg #[Value.int IntKind.i64 k, Value.int IntKind.i64 p, Value.int IntKind.i64 n, Value.int IntKind.i64 v]); refine (toCommand_any ⟨k, p, n, v⟩ _).mono ?_; rintro e w1 ⟨rfl, b1⟩; try simp only [cmdV]; (first | replace hX := hX.keep b1 | replace hX := hX.drew.keep b1); clear b1 m0 m1 m2 m3 l0 l1 l2 l3; obtain ⟨⟨m0, m1, m2, m3⟩, l0, l1, l2, l3⟩ := hX.cells)
        | (go_at_call_of 15 (Value.agg #[Value.int IntKind.i64 k', Value.int IntKind.i64 p', Value.int IntKind.i64 n', Value.int IntKind.i64 v']); refine (toCommand_any ⟨k', p', n', v'⟩ _).mono ?_; rintro e w1 ⟨rfl, b1⟩; try simp only [cmdV]; (first | replace hX := hX.keep b1 | replace hX := hX.drew.keep b1); clear b1 m0 m1 m2 m3 l0 l1 l2 l3; obtain ⟨⟨m0, m1, m2, m3⟩, l0, l1, l2, l3⟩ := hX.cells)
        | (go_at_call 20; refine (implCommandsClash_any ⟨k, p, n, v⟩ ⟨k', p', n', v'⟩ _).mono ?_; rintro e w1 ⟨rfl, b1⟩; (first | replace hX := hX.keep b1 | replace hX := hX.drew.keep b1); clear b1 m0 m1 m2 m3 l0 l1 l2 l3; obtain ⟨⟨m0, m1, m2, m3⟩, l0, l1, l2, l3⟩ := hX.cells))
  all_goals
    go_wp2_with fail
    go_ret
    exact ⟨rfl, hX.bel⟩
end Go.Proofs.Ytmdkihinhoclbaa
