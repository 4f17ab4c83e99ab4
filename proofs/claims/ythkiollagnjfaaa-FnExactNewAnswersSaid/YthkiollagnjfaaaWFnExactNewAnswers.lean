/-
  Walk: the law FnExactNewAnswers returns true.
-/
import Derived.Test.YthkiollagnjfaaaN4
import Derived.Test.YthkiollagnjfaaaN5
import Derived.Test.YthkiollagnjfaaaN12
import Derived.Test.YthkiollagnjfaaaS3
namespace Go.Proofs.Ythkiollagnjfaaa
open Go.RowKit
set_option linter.unusedSimpArgs false
set_option linter.unusedVariables false
set_option maxHeartbeats 8000000 in
theorem law_FnExactNewAnswers (w : World) (q : Int) (_hq : -9223372036854775808 ≤ q ∧ q ≤ 9223372036854775807) :
    Calls Try.prog 3 #[.int .i64 q] w (RetPure w (.bool true)) := by
  have hl := anew_16 q
  have hB : Below w.heap.size w w := Below.refl _ _
  obtain ⟨rd, hrd⟩ : ∃ rd, (anew q).ents = rd := ⟨_, rfl⟩
  obtain ⟨wb, hwb⟩ : ∃ wb, win q 1 16 = wb := ⟨_, rfl⟩
  rw [hrd] at hl
  have HR := Lib.hid hrd
  have HW := Lib.hid hwb
  clear hrd hwb
  go_enter Try.func3, Try.ntmps3
  go_wp2_with fail
  have q := specNewAnswers_any q w
  refine q.mono ?_
  clear q
  rintro e w1 ⟨As, cs, rfl, os, b1⟩
  simp only [HR.out, HW.out, ansR]
  simp only [HR.out] at os
  have s1 := b1.size
  replace hB := below_later hB b1 (Nat.le_refl _)
  clear b1
  have hn2 := below_new w1 (.cells #[.slice As rd.length cs, .int .i64 0, .bool wb, .int .i64 0, .bool wb, .int .i64 0] 24)
  replace os := os.below hn2
  replace hB := below_later hB hn2 (Nat.le_refl _)
  clear hn2
  have rs : (w1.alloc (.cells #[.slice As rd.length cs, .int .i64 0, .bool wb, .int .i64 0, .bool wb, .int .i64 0] 24)).heap[w1.heap.size]? = some (.cells #[.slice As rd.length cs, .int .i64 0, .bool wb, .int .i64 0, .bool wb, .int .i64 0] 24 (0, 0)) := heap_alloc_new _ _
  obtain ⟨ms0, ms1, ms2, ms3, ms4, ms5⟩ := cells6 rs
  have s2 : w1.heap.size < (w1.alloc (.cells #[.slice As rd.length cs, .int .i64 0, .bool wb, .int .i64 0, .bool wb, .int .i64 0] 24)).heap.size := Nat.lt_of_lt_of_eq (Nat.lt_succ_self _) (World.size_alloc _ _).symm
  go_wp2_with fail
  generalize (w1.alloc (.cells #[.slice As rd.length cs, .int .i64 0, .bool wb, .int .i64 0, .bool wb, .int .i64 0] 24)) = u2 at *
  have q := implNewAnswers_any q u2
  refine q.mono ?_
  clear q
  rintro e w3 ⟨Ag, cg, rfl, og, b3⟩
  simp only [HR.out, HW.out, ansR]
  simp only [HR.out] at og
  have s3 := b3.size
  replace os := os.below b3
  replace rs := rowKeep rs b3
  clear ms0 ms1 ms2 ms3 ms4 ms5
  obtain ⟨ms0, ms1, ms2, ms3, ms4, ms5⟩ := cells6 rs
  replace hB := below_later hB b3 (Nat.le_refl _)
  clear b3
  have k4 := ms0
  have k5 := ms1
  have k6 := ms2
  have k7 := ms3
  have k8 := ms4
  have k9 := ms5
  have hn10 := below_new w3 (.cells #[.slice Ag rd.length cg, .int .i64 0, .bool wb, .int .i64 0, .bool wb, .int .i64 0] 24)
  replace os := os.below hn10
  replace og := og.below hn10
  replace rs := rowKeep rs hn10
  clear ms0 ms1 ms2 ms3 ms4 ms5
  obtain ⟨ms0, ms1, ms2, ms3, ms4, ms5⟩ := cells6 rs
  replace hB := below_later hB hn10 (Nat.le_refl _)
  clear hn10
  have rg : (w3.alloc (.cells #[.slice Ag rd.length cg, .int .i64 0, .bool wb, .int .i64 0, .bool wb, .int .i64 0] 24)).heap[w3.heap.size]? = some (.cells #[.slice Ag rd.length cg, .int .i64 0, .bool wb, .int .i64 0, .bool wb, .int .i64 0] 24 (0, 0)) := heap_alloc_new _ _
  obtain ⟨mg0, mg1, mg2, mg3, mg4, mg5⟩ := cells6 rg
  have s10 : w3.heap.size < (w3.alloc (.cells #[.slice Ag rd.length cg, .int .i64 0, .bool wb, .int .i64 0, .bool wb, .int .i64 0] 24)).heap.size := Nat.lt_of_lt_of_eq (Nat.lt_succ_self _) (World.size_alloc _ _).symm
  go_wp2_with fail
  clear k4 k5 k6 k7 k8 k9
  generalize (w3.alloc (.cells #[.slice Ag rd.length cg, .int .i64 0, .bool wb, .int .i64 0, .bool wb, .int .i64 0] 24)) = u10 at *
  refine (eqAnswers_t _ _ _ _ _ _ _ _ _ _ _ _ _ _ _ og.sees os.sees (by omega) (by omega)).mono ?_
  rintro e w11 ⟨rfl, b11⟩
  have s11 := b11.size
  replace os := os.below b11
  replace og := og.below b11
  replace rs := rowKeep rs b11
  clear ms0 ms1 ms2 ms3 ms4 ms5
  obtain ⟨ms0, ms1, ms2, ms3, ms4, ms5⟩ := cells6 rs
  replace rg := rowKeep rg b11
  clear mg0 mg1 mg2 mg3 mg4 mg5
  obtain ⟨mg0, mg1, mg2, mg3, mg4, mg5⟩ := cells6 rg
  replace hB := below_later hB b11 (Nat.le_refl _)
  clear b11
  go_wp2_with fail
  refine (markAnswers_any _ _ _ _ _ _ _ _ _ _ _ 1 _ og (by omega) (by omega)).mono ?_
  rintro e w12 ⟨rfl, qg, f12⟩
  have s12 := f12.size
  replace os := os.fr f12 (by omega)
  replace rs := rowFr rs f12 (by omega)
  clear ms0 ms1 ms2 ms3 ms4 ms5
  obtain ⟨ms0, ms1, ms2, ms3, ms4, ms5⟩ := cells6 rs
  replace rg := rowFr rg f12 (by omega)
  clear mg0 mg1 mg2 mg3 mg4 mg5
  obtain ⟨mg0, mg1, mg2, mg3, mg4, mg5⟩ := cells6 rg
  replace hB := f12.below hB (by omega) (Nat.le_refl _)
  clear f12 og
  have og := qg
  clear qg
  go_wp2_with fail
  refine (heldAnswers_any _ _ _ _ _ _ _ _ _ 1 _ og.sees (by omega) (by omega) (by omega)).mono ?_
  rintro e w13 ⟨rfl, b13⟩
  have s13 := b13.size
  replace os := os.below b13
  replace og := og.below b13
  replace rs := rowKeep rs b13
  clear ms0 ms1 ms2 ms3 ms4 ms5
  obtain ⟨ms0, ms1, ms2, ms3, ms4, ms5⟩ := cells6 rs
  replace rg := rowKeep rg b13
  clear mg0 mg1 mg2 mg3 mg4 mg5
  obtain ⟨mg0, mg1, mg2, mg3, mg4, mg5⟩ := cells6 rg
  replace hB := below_later hB b13 (Nat.le_refl _)
  clear b13
  go_wp2_with fail
  have q := implNewAnswers_any q w13
  refine q.mono ?_
  clear q
  rintro e w14 ⟨Av, cv, rfl, ov, b14⟩
  simp only [HR.out, HW.out, ansR]
  simp only [HR.out] at ov
  have s14 := b14.size
  replace os := os.below b14
  replace og := og.below b14
  replace rs := rowKeep rs b14
  clear ms0 ms1 ms2 ms3 ms4 ms5
  obtain ⟨ms0, ms1, ms2, ms3, ms4, ms5⟩ := cells6 rs
  replace rg := rowKeep rg b14
  clear mg0 mg1 mg2 mg3 mg4 mg5
  obtain ⟨mg0, mg1, mg2, mg3, mg4, mg5⟩ := cells6 rg
  replace hB := below_later hB b14 (Nat.le_refl _)
  clear b14
  have k15 := ms0
  have k16 := ms1
  have k17 := ms2
  have k18 := ms3
  have k19 := ms4
  have k20 := ms5
  have k21 := mg0
  have k22 := mg1
  have k23 := mg2
  have k24 := mg3
  have k25 := mg4
  have k26 := mg5
  have hn27 := below_new w14 (.cells #[.slice Av rd.length cv, .int .i64 0, .bool wb, .int .i64 0, .bool wb, .int .i64 0] 24)
  replace os := os.below hn27
  replace og := og.below hn27
  replace ov := ov.below hn27
  replace rs := rowKeep rs hn27
  clear ms0 ms1 ms2 ms3 ms4 ms5
  obtain ⟨ms0, ms1, ms2, ms3, ms4, ms5⟩ := cells6 rs
  replace rg := rowKeep rg hn27
  clear mg0 mg1 mg2 mg3 mg4 mg5
  obtain ⟨mg0, mg1, mg2, mg3, mg4, mg5⟩ := cells6 rg
  replace hB := below_later hB hn27 (Nat.le_refl _)
  clear hn27
  have rv : (w14.alloc (.cells #[.slice Av rd.length cv, .int .i64 0, .bool wb, .int .i64 0, .bool wb, .int .i64 0] 24)).heap[w14.heap.size]? = some (.cells #[.slice Av rd.length cv, .int .i64 0, .bool wb, .int .i64 0, .bool wb, .int .i64 0] 24 (0, 0)) := heap_alloc_new _ _
  obtain ⟨mv0, mv1, mv2, mv3, mv4, mv5⟩ := cells6 rv
  have s27 : w14.heap.size < (w14.alloc (.cells #[.slice Av rd.length cv, .int .i64 0, .bool wb, .int .i64 0, .bool wb, .int .i64 0] 24)).heap.size := Nat.lt_of_lt_of_eq (Nat.lt_succ_self _) (World.size_alloc _ _).symm
  go_wp2_with fail
  clear k15 k16 k17 k18 k19 k20 k21 k22 k23 k24 k25 k26
  generalize (w14.alloc (.cells #[.slice Av rd.length cv, .int .i64 0, .bool wb, .int .i64 0, .bool wb, .int .i64 0] 24)) = u27 at *
  refine (eqAnswers_t _ _ _ _ _ _ _ _ _ _ _ _ _ _ _ ov.sees os.sees (by omega) (by omega)).mono ?_
  rintro e w28 ⟨rfl, b28⟩
  have s28 := b28.size
  replace os := os.below b28
  replace og := og.below b28
  replace ov := ov.below b28
  replace rs := rowKeep rs b28
  clear ms0 ms1 ms2 ms3 ms4 ms5
  obtain ⟨ms0, ms1, ms2, ms3, ms4, ms5⟩ := cells6 rs
  replace rg := rowKeep rg b28
  clear mg0 mg1 mg2 mg3 mg4 mg5
  obtain ⟨mg0, mg1, mg2, mg3, mg4, mg5⟩ := cells6 rg
  replace rv := rowKeep rv b28
  clear mv0 mv1 mv2 mv3 mv4 mv5
  obtain ⟨mv0, mv1, mv2, mv3, mv4, mv5⟩ := cells6 rv
  replace hB := below_later hB b28 (Nat.le_refl _)
  clear b28
  go_wp2_with fail
  refine (heldAnswers_any _ _ _ _ _ _ _ _ _ 1 _ og.sees (by omega) (by omega) (by omega)).mono ?_
  rintro e w29 ⟨rfl, b29⟩
  have s29 := b29.size
  replace os := os.below b29
  replace og := og.below b29
  replace ov := ov.below b29
  replace rs := rowKeep rs b29
  clear ms0 ms1 ms2 ms3 ms4 ms5
  obtain ⟨ms0, ms1, ms2, ms3, ms4, ms5⟩ := cells6 rs
  replace rg := rowKeep rg b29
  clear mg0 mg1 mg2 mg3 mg4 mg5
  obtain ⟨mg0, mg1, mg2, mg3, mg4, mg5⟩ := cells6 rg
  replace rv := rowKeep rv b29
  clear mv0 mv1 mv2 mv3 mv4 mv5
  obtain ⟨mv0, mv1, mv2, mv3, mv4, mv5⟩ := cells6 rv
  replace hB := below_later hB b29 (Nat.le_refl _)
  clear b29
  go_wp2_with fail
  go_ret
  exact ⟨rfl, hB⟩
end Go.Proofs.Ythkiollagnjfaaa
