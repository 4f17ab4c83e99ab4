/-
  Walk: the law FnExactNewTags returns true.
-/
import Derived.Test.YtophfpdcbkhifaaT3
import Derived.Test.YtophfpdcbkhifaaS2
namespace Go.Proofs.Ytophfpdcbkhifaa
open Go.RowKit
theorem law_FnExactNewTags (w : World) (q : Int) (_hq : -9223372036854775808 ≤ q ∧ q ≤ 9223372036854775807) :
    Calls Try.prog 3 #[.int .i64 q] w (RetPure w (.bool true)) := by
  have hl : (tnew q).length ≤ 16 := tnew_16 q
  have hB : Below w.heap.size w w := Below.refl _ _
  go_enter Try.func3, Try.ntmps3
  go_wp2_with fail
  refine (specNewTags_any _ _).mono ?_
  rintro e w1 ⟨As, cs, rfl, os, b1⟩
  have s1 := b1.size
  replace hB := below_later hB b1 (Nat.le_refl _)
  clear b1
  simp only [tagV]
  have hn2 := below_new w1 (.cells #[.slice As (tnew q).length cs] 24)
  replace os := os.below hn2
  replace hB := below_later hB hn2 (Nat.le_refl _)
  clear hn2
  have rs : (w1.alloc (.cells #[.slice As (tnew q).length cs] 24)).heap[w1.heap.size]? = some (.cells #[.slice As (tnew q).length cs] 24 (0, 0)) := heap_alloc_new _ _
  have ms0 := cells1 rs
  have s2 : w1.heap.size < (w1.alloc (.cells #[.slice As (tnew q).length cs] 24)).heap.size := by rw [World.size_alloc]; exact Nat.lt_succ_self _
  go_wp2_with fail
  generalize (w1.alloc (.cells #[.slice As (tnew q).length cs] 24)) = u2 at *
  refine (implNewTags_any _ _).mono ?_
  rintro e w3 ⟨Ag, cg, rfl, og, b3⟩
  have s3 := b3.size
  replace os := os.below b3
  replace rs := rowKeep rs b3
  clear ms0
  have ms0 := cells1 rs
  replace hB := below_later hB b3 (Nat.le_refl _)
  clear b3
  simp only [tagV]
  have hn4 := below_new w3 (.cells #[.slice Ag (tnew q).length cg] 24)
  replace os := os.below hn4
  replace og := og.below hn4
  replace rs := rowKeep rs hn4
  clear ms0
  have ms0 := cells1 rs
  replace hB := below_later hB hn4 (Nat.le_refl _)
  clear hn4
  have rg : (w3.alloc (.cells #[.slice Ag (tnew q).length cg] 24)).heap[w3.heap.size]? = some (.cells #[.slice Ag (tnew q).length cg] 24 (0, 0)) := heap_alloc_new _ _
  have mg0 := cells1 rg
  have s4 : w3.heap.size < (w3.alloc (.cells #[.slice Ag (tnew q).length cg] 24)).heap.size := by rw [World.size_alloc]; exact Nat.lt_succ_self _
  go_wp2_with fail
  generalize (w3.alloc (.cells #[.slice Ag (tnew q).length cg] 24)) = u4 at *
  refine (eqTags_t _ _ _ _ _ _ _ _ _ _ og.sees os.sees (by omega) (by omega)).mono ?_
  rintro e w5 ⟨rfl, b5⟩
  have s5 := b5.size
  replace os := os.below b5
  replace og := og.below b5
  replace rs := rowKeep rs b5
  clear ms0
  have ms0 := cells1 rs
  replace rg := rowKeep rg b5
  clear mg0
  have mg0 := cells1 rg
  replace hB := below_later hB b5 (Nat.le_refl _)
  clear b5
  go_wp2_with fail
  refine (markTags_any _ _ _ _ _ _ 1 _ og (by omega) (by omega)).mono ?_
  rintro e w6 ⟨rfl, qg, f6⟩
  have s6 := f6.size
  replace os := os.fr f6 (by omega)
  replace rs := rowFr rs f6 (by omega)
  clear ms0
  have ms0 := cells1 rs
  replace rg := rowFr rg f6 (by omega)
  clear mg0
  have mg0 := cells1 rg
  replace hB := f6.below hB (by omega) (Nat.le_refl _)
  clear f6 og
  have og := qg
  clear qg
  go_wp2_with fail
  refine (heldTags_any _ _ _ _ 1 _ og.sees (by omega) (by omega) (by omega)).mono ?_
  rintro e w7 ⟨rfl, b7⟩
  have s7 := b7.size
  replace os := os.below b7
  replace og := og.below b7
  replace rs := rowKeep rs b7
  clear ms0
  have ms0 := cells1 rs
  replace rg := rowKeep rg b7
  clear mg0
  have mg0 := cells1 rg
  replace hB := below_later hB b7 (Nat.le_refl _)
  clear b7
  go_wp2_with fail
  refine (implNewTags_any _ _).mono ?_
  rintro e w8 ⟨Av, cv, rfl, ov, b8⟩
  have s8 := b8.size
  replace os := os.below b8
  replace og := og.below b8
  replace rs := rowKeep rs b8
  clear ms0
  have ms0 := cells1 rs
  replace rg := rowKeep rg b8
  clear mg0
  have mg0 := cells1 rg
  replace hB := below_later hB b8 (Nat.le_refl _)
  clear b8
  simp only [tagV]
  have hn9 := below_new w8 (.cells #[.slice Av (tnew q).length cv] 24)
  replace os := os.below hn9
  replace og := og.below hn9
  replace ov := ov.below hn9
  replace rs := rowKeep rs hn9
  clear ms0
  have ms0 := cells1 rs
  replace rg := rowKeep rg hn9
  clear mg0
  have mg0 := cells1 rg
  replace hB := below_later hB hn9 (Nat.le_refl _)
  clear hn9
  have rv : (w8.alloc (.cells #[.slice Av (tnew q).length cv] 24)).heap[w8.heap.size]? = some (.cells #[.slice Av (tnew q).length cv] 24 (0, 0)) := heap_alloc_new _ _
  have mv0 := cells1 rv
  have s9 : w8.heap.size < (w8.alloc (.cells #[.slice Av (tnew q).length cv] 24)).heap.size := by rw [World.size_alloc]; exact Nat.lt_succ_self _
  go_wp2_with fail
  generalize (w8.alloc (.cells #[.slice Av (tnew q).length cv] 24)) = u9 at *
  refine (eqTags_t _ _ _ _ _ _ _ _ _ _ ov.sees os.sees (by omega) (by omega)).mono ?_
  rintro e w10 ⟨rfl, b10⟩
  have s10 := b10.size
  replace os := os.below b10
  replace og := og.below b10
  replace ov := ov.below b10
  replace rs := rowKeep rs b10
  clear ms0
  have ms0 := cells1 rs
  replace rg := rowKeep rg b10
  clear mg0
  have mg0 := cells1 rg
  replace rv := rowKeep rv b10
  clear mv0
  have mv0 := cells1 rv
  replace hB := below_later hB b10 (Nat.le_refl _)
  clear b10
  go_wp2_with fail
  refine (heldTags_any _ _ _ _ 1 _ og.sees (by omega) (by omega) (by omega)).mono ?_
  rintro e w11 ⟨rfl, b11⟩
  have s11 := b11.size
  replace os := os.below b11
  replace og := og.below b11
  replace ov := ov.below b11
  replace rs := rowKeep rs b11
  clear ms0
  have ms0 := cells1 rs
  replace rg := rowKeep rg b11
  clear mg0
  have mg0 := cells1 rg
  replace rv := rowKeep rv b11
  clear mv0
  have mv0 := cells1 rv
  replace hB := below_later hB b11 (Nat.le_refl _)
  clear b11
  go_wp2_with fail
  go_ret
  exact ⟨rfl, hB⟩
end Go.Proofs.Ytophfpdcbkhifaa
