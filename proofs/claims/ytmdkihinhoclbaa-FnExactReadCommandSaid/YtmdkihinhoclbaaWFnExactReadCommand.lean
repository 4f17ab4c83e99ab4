/-
  Walk: the law FnExactReadCommand returns true.
-/
import Derived.Test.YtmdkihinhoclbaaC3
namespace Go.Proofs.Ytmdkihinhoclbaa
open Go.RowKit
theorem law_FnExactReadCommand (w : World) (n : Int) (hn : -9223372036854775808 ≤ n ∧ n ≤ 9223372036854775807) :
    Calls Try.prog 6 #[.int .i64 n] w (RetPure w (.bool true)) := by
  generalize hc : (if rdok n = true then rcmd n else ⟨0, 0, 0, 0⟩ : Cmd) = c
  have hs := specReadCommand_any n
  have hi := implReadCommand_any n
  rw [hc] at hs hi
  generalize hr : rdok n = b at hs hi
  clear hc hr
  obtain ⟨k, p, m, v⟩ := c
  go_enter Try.func6, Try.ntmps6
  go_wp2_with fail
  refine (hs _ hn).mono ?_
  rintro e w1 ⟨rfl, b1⟩
  simp only [cmdV]
  have s1 := b1.size
  go_wp2_with fail
  refine (hi _ hn).mono ?_
  rintro e w2 ⟨rfl, b2⟩
  simp only [cmdV]
  have s2 := b2.size
  have hB := below_later (b1.alloc b1.size _) b2 (by simp)
  have r0 := keepRow (heap_alloc_new w1 _) b2
  have sz := b2.size
  simp only [World.size_alloc] at sz
  obtain ⟨m0, m1, m2, m3⟩ := cells4 (keepRow r0 (below_new w2 (.cells #[.int .i64 k, .int .i64 p, .int .i64 m, .int .i64 v] 25)))
  go_wp2_with fail
  refine (eqCommand_any ⟨k, p, m, v⟩ ⟨k, p, m, v⟩ _).mono ?_
  rw [ceq_refl]
  rintro e w3 ⟨rfl, b3⟩
  replace hB := below_later (hB.alloc hB.size _) b3 (by simp)
  cases b
  all_goals
    go_wp2_with fail
    go_ret
    exact ⟨rfl, hB⟩
end Go.Proofs.Ytmdkihinhoclbaa
