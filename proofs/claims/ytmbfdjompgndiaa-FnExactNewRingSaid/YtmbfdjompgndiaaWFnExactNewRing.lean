/-
  Walk: the law FnExactNewRing returns true.
-/
import Derived.Test.YtmbfdjompgndiaaR2
namespace Go.Proofs.Ytmbfdjompgndiaa
open Go.RowKit
theorem law_FnExactNewRing (w : World) (q : Int) (_hq : -9223372036854775808 ≤ q ∧ q ≤ 9223372036854775807) :
    Calls Try.prog 4 #[.int .i64 q] w (RetPure w (.bool true)) := by
  have hl : (rnew q).length ≤ 16 := rnew_16 q
  have hB : Below w.heap.size w w := Below.refl _ _
  go_enter Try.func4, Try.ntmps4
  go_wp2_with fail
  refine (specNewRing_any _ _).mono ?_
  rintro e w1 ⟨As, cs, rfl, os, b1⟩
  have s1 := b1.size
  replace hB := below_later hB b1 (Nat.le_refl _)
  clear b1
  simp only [ringV]
  have hn2 := below_new w1 (.cells #[.slice As (rnew q).length cs, .int .i64 0, .int .i64 0] 27)
  replace os := os.below hn2
  replace hB := below_later hB hn2 (Nat.le_refl _)
  clear hn2
  have rs : (w1.alloc (.cells #[.slice As (rnew q).length cs, .int .i64 0, .int .i64 0] 27)).heap[w1.heap.size]? = some (.cells #[.slice As (rnew q).length cs, .int .i64 0, .int .i64 0] 27 (0, 0)) := heap_alloc_new _ _
  obtain ⟨ms0, ms1, ms2⟩ := cells3 rs
  have s2 : w1.heap.size < (w1.alloc (.cells #[.slice As (rnew q).length cs, .int .i64 0, .int .i64 0] 27)).heap.size := by rw [World.size_alloc]; exact Nat.lt_succ_self _
  go_wp2_with fail
  generalize (w1.alloc (.cells #[.slice As (rnew q).length cs, .int .i64 0, .int .i64 0] 27)) = u2 at *
  refine (implNewRing_any _ _).mono ?_
  rintro e w3 ⟨Ag, cg, rfl, og, b3⟩
  have s3 := b3.size
  replace os := os.below b3
  replace rs := rowKeep rs b3
  clear ms0 ms1 ms2
  obtain ⟨ms0, ms1, ms2⟩ := cells3 rs
  replace hB := below_later hB b3 (Nat.le_refl _)
  clear b3
  simp only [ringV]
  have hn4 := below_new w3 (.cells #[.slice Ag (rnew q).length cg, .int .i64 0, .int .i64 0] 27)
  replace os := os.below hn4
  replace og := og.below hn4
  replace rs := rowKeep rs hn4
  clear ms0 ms1 ms2
  obtain ⟨ms0, ms1, ms2⟩ := cells3 rs
  replace hB := below_later hB hn4 (Nat.le_refl _)
  clear hn4
  have rg : (w3.alloc (.cells #[.slice Ag (rnew q).length cg, .int .i64 0, .int .i64 0] 27)).heap[w3.heap.size]? = some (.cells #[.slice Ag (rnew q).length cg, .int .i64 0, .int .i64 0] 27 (0, 0)) := heap_alloc_new _ _
  obtain ⟨mg0, mg1, mg2⟩ := cells3 rg
  have s4 : w3.heap.size < (w3.alloc (.cells #[.slice Ag (rnew q).length cg, .int .i64 0, .int .i64 0] 27)).heap.size := by rw [World.size_alloc]; exact Nat.lt_succ_self _
  go_wp2_with fail
  generalize (w3.alloc (.cells #[.slice Ag (rnew q).length cg, .int .i64 0, .int .i64 0] 27)) = u4 at *
  refine (eqRing_t _ _ _ _ _ _ _ _ _ _ _ _ og.sees os.sees (by omega) (by omega)).mono ?_
  rintro e w5 ⟨rfl, b5⟩
  have s5 := b5.size
  replace os := os.below b5
  replace og := og.below b5
  replace rs := rowKeep rs b5
  clear ms0 ms1 ms2
  obtain ⟨ms0, ms1, ms2⟩ := cells3 rs
  replace rg := rowKeep rg b5
  clear mg0 mg1 mg2
  obtain ⟨mg0, mg1, mg2⟩ := cells3 rg
  replace hB := below_later hB b5 (Nat.le_refl _)
  clear b5
  go_wp2_with fail
  refine (markRing_any _ _ _ _ _ _ _ _ 1 _ og (by omega) (by omega)).mono ?_
  rintro e w6 ⟨rfl, qg, f6⟩
  have s6 := f6.size
  replace os := os.fr f6 (by omega)
  replace rs := rowFr rs f6 (by omega)
  clear ms0 ms1 ms2
  obtain ⟨ms0, ms1, ms2⟩ := cells3 rs
  replace rg := rowFr rg f6 (by omega)
  clear mg0 mg1 mg2
  obtain ⟨mg0, mg1, mg2⟩ := cells3 rg
  replace hB := f6.below hB (by omega) (Nat.le_refl _)
  clear f6 og
  have og := qg
  clear qg
  go_wp2_with fail
  refine (heldRing_any _ _ _ _ _ _ 1 _ og.sees (by omega) (by omega) (by omega)).mono ?_
  rintro e w7 ⟨rfl, b7⟩
  have s7 := b7.size
  replace os := os.below b7
  replace og := og.below b7
  replace rs := rowKeep rs b7
  clear ms0 ms1 ms2
  obtain ⟨ms0, ms1, ms2⟩ := cells3 rs
  replace rg := rowKeep rg b7
  clear mg0 mg1 mg2
  obtain ⟨mg0, mg1, mg2⟩ := cells3 rg
  replace hB := below_later hB b7 (Nat.le_refl _)
  clear b7
  go_wp2_with fail
  refine (implNewRing_any _ _).mono ?_
  rintro e w8 ⟨Av, cv, rfl, ov, b8⟩
  have s8 := b8.size
  replace os := os.below b8
  replace og := og.below b8
  replace rs := rowKeep rs b8
  clear ms0 ms1 ms2
  obtain ⟨ms0, ms1, ms2⟩ := cells3 rs
  replace rg := rowKeep rg b8
  clear mg0 mg1 mg2
  obtain ⟨mg0, mg1, mg2⟩ := cells3 rg
  replace hB := below_later hB b8 (Nat.le_refl _)
  clear b8
  simp only [ringV]
  have hn9 := below_new w8 (.cells #[.slice Av (rnew q).length cv, .int .i64 0, .int .i64 0] 27)
  replace os := os.below hn9
  replace og := og.below hn9
  replace ov := ov.below hn9
  replace rs := rowKeep rs hn9
  clear ms0 ms1 ms2
  obtain ⟨ms0, ms1, ms2⟩ := cells3 rs
  replace rg := rowKeep rg hn9
  clear mg0 mg1 mg2
  obtain ⟨mg0, mg1, mg2⟩ := cells3 rg
  replace hB := below_later hB hn9 (Nat.le_refl _)
  clear hn9
  have rv : (w8.alloc (.cells #[.slice Av (rnew q).length cv, .int .i64 0, .int .i64 0] 27)).heap[w8.heap.size]? = some (.cells #[.slice Av (rnew q).length cv, .int .i64 0, .int .i64 0] 27 (0, 0)) := heap_alloc_new _ _
  obtain ⟨mv0, mv1, mv2⟩ := cells3 rv
  have s9 : w8.heap.size < (w8.alloc (.cells #[.slice Av (rnew q).length cv, .int .i64 0, .int .i64 0] 27)).heap.size := by rw [World.size_alloc]; exact Nat.lt_succ_self _
  go_wp2_with fail
  generalize (w8.alloc (.cells #[.slice Av (rnew q).length cv, .int .i64 0, .int .i64 0] 27)) = u9 at *
  refine (eqRing_t _ _ _ _ _ _ _ _ _ _ _ _ ov.sees os.sees (by omega) (by omega)).mono ?_
  rintro e w10 ⟨rfl, b10⟩
  have s10 := b10.size
  replace os := os.below b10
  replace og := og.below b10
  replace ov := ov.below b10
  replace rs := rowKeep rs b10
  clear ms0 ms1 ms2
  obtain ⟨ms0, ms1, ms2⟩ := cells3 rs
  replace rg := rowKeep rg b10
  clear mg0 mg1 mg2
  obtain ⟨mg0, mg1, mg2⟩ := cells3 rg
  replace rv := rowKeep rv b10
  clear mv0 mv1 mv2
  obtain ⟨mv0, mv1, mv2⟩ := cells3 rv
  replace hB := below_later hB b10 (Nat.le_refl _)
  clear b10
  go_wp2_with fail
  refine (heldRing_any _ _ _ _ _ _ 1 _ og.sees (by omega) (by omega) (by omega)).mono ?_
  rintro e w11 ⟨rfl, b11⟩
  have s11 := b11.size
  replace os := os.below b11
  replace og := og.below b11
  replace ov := ov.below b11
  replace rs := rowKeep rs b11
  clear ms0 ms1 ms2
  obtain ⟨ms0, ms1, ms2⟩ := cells3 rs
  replace rg := rowKeep rg b11
  clear mg0 mg1 mg2
  obtain ⟨mg0, mg1, mg2⟩ := cells3 rg
  replace rv := rowKeep rv b11
  clear mv0 mv1 mv2
  obtain ⟨mv0, mv1, mv2⟩ := cells3 rv
  replace hB := below_later hB b11 (Nat.le_refl _)
  clear b11
  go_wp2_with fail
  go_ret
  exact ⟨rfl, hB⟩
end Go.Proofs.Ytmbfdjompgndiaa
