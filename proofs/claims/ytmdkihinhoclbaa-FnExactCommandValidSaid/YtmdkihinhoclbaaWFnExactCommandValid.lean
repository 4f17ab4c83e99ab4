/-
  Walk: the law FnExactCommandValid returns true.
-/
import Derived.Test.YtmdkihinhoclbaaC2
namespace Go.Proofs.Ytmdkihinhoclbaa
open Go.RowKit
theorem law_FnExactCommandValid (w : World) (k p n v size : Int) (hs : -9223372036854775808 ≤ size ∧ size ≤ 9223372036854775807) :
    Calls Try.prog 3 #[.agg #[.int .i64 k, .int .i64 p, .int .i64 n, .int .i64 v], .int .i64 size] w (RetPure w (.bool true)) := by
  go_enter Try.func3, Try.ntmps3
  go_wp2_with fail
  refine (toCommand_any ⟨k, p, n, v⟩ _).mono ?_
  rintro e w1 ⟨rfl, b1⟩
  simp only [cmdV]
  have rc := keepRow (heap_alloc_new w _) b1
  have hB := below_later (below_new w _) b1 (by simp)
  obtain ⟨mc0, mc1, mc2, mc3⟩ := cells4 rc
  have s1 := b1.size
  clear b1
  go_wp2_with fail
  refine (specCommandValid_any k p n v size _ hs.2).mono ?_
  rintro e w2 ⟨rfl, b2⟩
  replace rc := keepRow rc b2
  clear mc0 mc1 mc2 mc3
  obtain ⟨mc0, mc1, mc2, mc3⟩ := cells4 rc
  have s2 := b2.size
  replace hB := below_later hB b2 (Nat.le_refl _)
  clear b2
  go_wp2_with fail
  refine (toCommand_any ⟨k, p, n, v⟩ _).mono ?_
  rintro e w3 ⟨rfl, b3⟩
  replace rc := keepRow rc b3
  clear mc0 mc1 mc2 mc3
  obtain ⟨mc0, mc1, mc2, mc3⟩ := cells4 rc
  have s3 := b3.size
  replace hB := below_later hB b3 (Nat.le_refl _)
  clear b3
  simp only [cmdV]
  go_wp2_with fail
  refine (implCommandValid_any k p n v size _ hs.2).mono ?_
  rintro e w4 ⟨rfl, b4⟩
  replace rc := keepRow rc b4
  clear mc0 mc1 mc2 mc3
  obtain ⟨mc0, mc1, mc2, mc3⟩ := cells4 rc
  have s4 := b4.size
  replace hB := below_later hB b4 (Nat.le_refl _)
  clear b4
  go_wp2_with fail
  go_ret
  exact ⟨rfl, hB⟩
end Go.Proofs.Ytmdkihinhoclbaa
