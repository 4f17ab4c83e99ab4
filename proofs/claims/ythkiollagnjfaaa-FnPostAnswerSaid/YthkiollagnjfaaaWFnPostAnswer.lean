/-
  Walk: the law FnPostAnswer returns true.
-/
import Derived.Deep.DeepCutAuto
import Derived.Deep.RegionHeld3
import Derived.IntWalk
import Derived.Test.YthkiollagnjfaaaN14
import Derived.Test.YthkiollagnjfaaaN16
import Derived.Test.YthkiollagnjfaaaN5
import Derived.Test.YthkiollagnjfaaaS3
import Derived.Test.YthkiollagnjfaaaA
namespace Go.Proofs.Ythkiollagnjfaaa
open Go.RowKit
set_option linter.unusedSimpArgs false
set_option linter.unusedVariables false
set_option maxHeartbeats 8000000 in
theorem law_FnPostAnswer (w : World) (A : Option Addr) (n c : Nat) (bs : List Int) (h : Sees w w.heap.size 1 A n c (byts bs)) (hb : ∀ v ∈ bs, 0 ≤ v ∧ v ≤ 255) :
    Calls Try.prog 11 #[.slice A n c] w (RetPure w (.bool true)) := by
  have hc1 := h.cap
  have hc2 := h.big
  by_cases hn : 1048576 < n
  · go_enter Try.func11, Try.ntmps11
    go_wp2_with fail
    go_ret
    exact ⟨rfl, Below.refl _ _⟩
  have hB : Below w.heap.size w w := Below.refl _ _
  go_enter Try.func11, Try.ntmps11
  go_wp2_with fail
  refine (drawPostAnswer_any _ _ _ _ _ _ h (Nat.le_refl _) hb).mono ?_
  rintro e w1 ⟨At, ct, d, ps, pp, tk, tp, pd, v, rfl, ⟨ot, hd17⟩, ⟨hv0, hv1⟩, b1⟩
  have s1 := b1.size
  replace hB := below_later hB b1 (Nat.le_refl _)
  clear b1
  clear h hb
  have hct := ot.cap
  have hn2 := below_new w1 (.cells #[.slice At d.length ct, .int .i64 ps, .bool pp, .int .i64 tk, .bool tp, .int .i64 pd] 24)
  replace ot := ot.below hn2
  replace hB := below_later hB hn2 (Nat.le_refl _)
  clear hn2
  have rt : (w1.alloc (.cells #[.slice At d.length ct, .int .i64 ps, .bool pp, .int .i64 tk, .bool tp, .int .i64 pd] 24)).heap[w1.heap.size]? = some (.cells #[.slice At d.length ct, .int .i64 ps, .bool pp, .int .i64 tk, .bool tp, .int .i64 pd] 24 (0, 0)) := heap_alloc_new _ _
  obtain ⟨mt0, mt1, mt2, mt3, mt4, mt5⟩ := cells6 rt
  have s2 : w1.heap.size < (w1.alloc (.cells #[.slice At d.length ct, .int .i64 ps, .bool pp, .int .i64 tk, .bool tp, .int .i64 pd] 24)).heap.size := Nat.lt_of_lt_of_eq (Nat.lt_succ_self _) (World.size_alloc _ _).symm
  cases hv : aval ⟨d, ps, pp, tk, tp, pd⟩
  · have HV := Lib.hid hv
    have haz : az = ⟨[], 0, false, 0, false, 0⟩ := rfl
    obtain ⟨h1, h2⟩ := apost_no _ v hv
    rw [haz] at h1
    have H1 := Lib.hid h1
    have H2 := Lib.hid h2
    clear h1 h2 haz hv
    go_wp2_with fail
    generalize (w1.alloc (.cells #[.slice At d.length ct, .int .i64 ps, .bool pp, .int .i64 tk, .bool tp, .int .i64 pd] 24)) = u2 at *
    have q := implPostAnswer_any At d.length ct _ d ps pp tk tp pd v u2 ot.sees (by omega)
    refine q.mono ?_
    clear q
    rintro e w3 ⟨Ax, cx, rfl, ox, b3⟩
    simp only [H1.out, H2.out, postV, ansW, ansR, List.length_nil]
    simp only [H1.out, List.length_nil] at ox
    have s3 := b3.size
    replace ot := ot.below b3
    replace rt := rowKeep rt b3
    clear mt0 mt1 mt2 mt3 mt4 mt5
    obtain ⟨mt0, mt1, mt2, mt3, mt4, mt5⟩ := cells6 rt
    replace hB := below_later hB b3 (Nat.le_refl _)
    clear b3
    have k4 := mt0
    have k5 := mt1
    have k6 := mt2
    have k7 := mt3
    have k8 := mt4
    have k9 := mt5
    have hn10 := below_new w3 (.cells #[.slice Ax 0 cx, .int .i64 0, .bool false, .int .i64 0, .bool false, .int .i64 0] 24)
    replace ot := ot.below hn10
    replace ox := ox.below hn10
    replace rt := rowKeep rt hn10
    clear mt0 mt1 mt2 mt3 mt4 mt5
    obtain ⟨mt0, mt1, mt2, mt3, mt4, mt5⟩ := cells6 rt
    replace hB := below_later hB hn10 (Nat.le_refl _)
    clear hn10
    have rx : (w3.alloc (.cells #[.slice Ax 0 cx, .int .i64 0, .bool false, .int .i64 0, .bool false, .int .i64 0] 24)).heap[w3.heap.size]? = some (.cells #[.slice Ax 0 cx, .int .i64 0, .bool false, .int .i64 0, .bool false, .int .i64 0] 24 (0, 0)) := heap_alloc_new _ _
    obtain ⟨mx0, mx1, mx2, mx3, mx4, mx5⟩ := cells6 rx
    have s10 : w3.heap.size < (w3.alloc (.cells #[.slice Ax 0 cx, .int .i64 0, .bool false, .int .i64 0, .bool false, .int .i64 0] 24)).heap.size := Nat.lt_of_lt_of_eq (Nat.lt_succ_self _) (World.size_alloc _ _).symm
    go_wp2_with fail
    clear k4 k5 k6 k7 k8 k9
    generalize (w3.alloc (.cells #[.slice Ax 0 cx, .int .i64 0, .bool false, .int .i64 0, .bool false, .int .i64 0] 24)) = u10 at *
    have q := specPostAnswer_any At d.length ct _ d ps pp tk tp pd v u10 ot.sees (by omega)
    refine q.mono ?_
    clear q
    rintro e w11 ⟨Ay, cy, rfl, oy, b11⟩
    simp only [H1.out, H2.out, postV, ansW, ansR, List.length_nil]
    simp only [H1.out, List.length_nil] at oy
    have s11 := b11.size
    replace ot := ot.below b11
    replace ox := ox.below b11
    replace rt := rowKeep rt b11
    clear mt0 mt1 mt2 mt3 mt4 mt5
    obtain ⟨mt0, mt1, mt2, mt3, mt4, mt5⟩ := cells6 rt
    replace rx := rowKeep rx b11
    clear mx0 mx1 mx2 mx3 mx4 mx5
    obtain ⟨mx0, mx1, mx2, mx3, mx4, mx5⟩ := cells6 rx
    replace hB := below_later hB b11 (Nat.le_refl _)
    clear b11
    have k12 := mt0
    have k13 := mt1
    have k14 := mt2
    have k15 := mt3
    have k16 := mt4
    have k17 := mt5
    have k18 := mx0
    have k19 := mx1
    have k20 := mx2
    have k21 := mx3
    have k22 := mx4
    have k23 := mx5
    have hn24 := below_new w11 (.cells #[.slice Ay 0 cy, .int .i64 0, .bool false, .int .i64 0, .bool false, .int .i64 0] 24)
    replace ot := ot.below hn24
    replace ox := ox.below hn24
    replace oy := oy.below hn24
    replace rt := rowKeep rt hn24
    clear mt0 mt1 mt2 mt3 mt4 mt5
    obtain ⟨mt0, mt1, mt2, mt3, mt4, mt5⟩ := cells6 rt
    replace rx := rowKeep rx hn24
    clear mx0 mx1 mx2 mx3 mx4 mx5
    obtain ⟨mx0, mx1, mx2, mx3, mx4, mx5⟩ := cells6 rx
    replace hB := below_later hB hn24 (Nat.le_refl _)
    clear hn24
    have ry : (w11.alloc (.cells #[.slice Ay 0 cy, .int .i64 0, .bool false, .int .i64 0, .bool false, .int .i64 0] 24)).heap[w11.heap.size]? = some (.cells #[.slice Ay 0 cy, .int .i64 0, .bool false, .int .i64 0, .bool false, .int .i64 0] 24 (0, 0)) := heap_alloc_new _ _
    obtain ⟨my0, my1, my2, my3, my4, my5⟩ := cells6 ry
    have s24 : w11.heap.size < (w11.alloc (.cells #[.slice Ay 0 cy, .int .i64 0, .bool false, .int .i64 0, .bool false, .int .i64 0] 24)).heap.size := Nat.lt_of_lt_of_eq (Nat.lt_succ_self _) (World.size_alloc _ _).symm
    go_wp2_with fail
    clear k12 k13 k14 k15 k16 k17 k18 k19 k20 k21 k22 k23
    generalize (w11.alloc (.cells #[.slice Ay 0 cy, .int .i64 0, .bool false, .int .i64 0, .bool false, .int .i64 0] 24)) = u24 at *
    refine (sameAnswers_t _ _ _ _ _ _ _ _ _ _ _ _ _ _ _ ox.sees oy.sees (by omega) (by omega)).mono ?_
    rintro e w25 ⟨rfl, b25⟩
    have s25 := b25.size
    replace ot := ot.below b25
    replace ox := ox.below b25
    replace oy := oy.below b25
    replace rt := rowKeep rt b25
    clear mt0 mt1 mt2 mt3 mt4 mt5
    obtain ⟨mt0, mt1, mt2, mt3, mt4, mt5⟩ := cells6 rt
    replace rx := rowKeep rx b25
    clear mx0 mx1 mx2 mx3 mx4 mx5
    obtain ⟨mx0, mx1, mx2, mx3, mx4, mx5⟩ := cells6 rx
    replace ry := rowKeep ry b25
    clear my0 my1 my2 my3 my4 my5
    obtain ⟨my0, my1, my2, my3, my4, my5⟩ := cells6 ry
    replace hB := below_later hB b25 (Nat.le_refl _)
    clear b25
    go_wp2_with fail
    have q := specAnswersValid_any At d.length ct _ d ps pp tk tp pd w25 ot.sees (by omega)
    rw [HV.out] at q
    refine q.mono ?_
    clear q
    rintro e w26 ⟨rfl, b26⟩
    have s26 := b26.size
    replace ot := ot.below b26
    replace ox := ox.below b26
    replace oy := oy.below b26
    replace rt := rowKeep rt b26
    clear mt0 mt1 mt2 mt3 mt4 mt5
    obtain ⟨mt0, mt1, mt2, mt3, mt4, mt5⟩ := cells6 rt
    replace rx := rowKeep rx b26
    clear mx0 mx1 mx2 mx3 mx4 mx5
    obtain ⟨mx0, mx1, mx2, mx3, mx4, mx5⟩ := cells6 rx
    replace ry := rowKeep ry b26
    clear my0 my1 my2 my3 my4 my5
    obtain ⟨my0, my1, my2, my3, my4, my5⟩ := cells6 ry
    replace hB := below_later hB b26 (Nat.le_refl _)
    clear b26
    go_wp2_with fail
    refine (alive_any _).mono ?_
    rintro e w27 ⟨rfl, b27⟩
    have s27 := b27.size
    replace ot := ot.below b27
    replace ox := ox.below b27
    replace oy := oy.below b27
    replace rt := rowKeep rt b27
    clear mt0 mt1 mt2 mt3 mt4 mt5
    obtain ⟨mt0, mt1, mt2, mt3, mt4, mt5⟩ := cells6 rt
    replace rx := rowKeep rx b27
    clear mx0 mx1 mx2 mx3 mx4 mx5
    obtain ⟨mx0, mx1, mx2, mx3, mx4, mx5⟩ := cells6 rx
    replace ry := rowKeep ry b27
    clear my0 my1 my2 my3 my4 my5
    obtain ⟨my0, my1, my2, my3, my4, my5⟩ := cells6 ry
    replace hB := below_later hB b27 (Nat.le_refl _)
    clear b27
    go_wp2_with fail
    go_ret
    exact ⟨rfl, hB⟩
  · have HV := Lib.hid hv
    obtain ⟨⟨v1, v2⟩, ⟨v3, v4⟩, ⟨v5, v6⟩⟩ := aval_bd _ _ _ _ _ _ hv
    by_cases hf : pd = (d.length : Int)
    · obtain ⟨h1, h2⟩ := apost_full _ v hv hf
      have H1 := Lib.hid h1
      have H2 := Lib.hid h2
      have hb0 : (pd == (d.length : Int)) = true := beq_iff_eq.2 hf
      clear h1 h2 hv hf
      go_wp2_with fail
      generalize (w1.alloc (.cells #[.slice At d.length ct, .int .i64 ps, .bool pp, .int .i64 tk, .bool tp, .int .i64 pd] 24)) = u2 at *
      have q := implPostAnswer_any At d.length ct _ d ps pp tk tp pd v u2 ot.sees (by omega)
      refine q.mono ?_
      clear q
      rintro e w3 ⟨Ax, cx, rfl, ox, b3⟩
      simp only [H1.out, H2.out, postV, ansW, ansR, List.length_nil]
      simp only [H1.out, List.length_nil] at ox
      have s3 := b3.size
      replace ot := ot.below b3
      replace rt := rowKeep rt b3
      clear mt0 mt1 mt2 mt3 mt4 mt5
      obtain ⟨mt0, mt1, mt2, mt3, mt4, mt5⟩ := cells6 rt
      replace hB := below_later hB b3 (Nat.le_refl _)
      clear b3
      have k4 := mt0
      have k5 := mt1
      have k6 := mt2
      have k7 := mt3
      have k8 := mt4
      have k9 := mt5
      have hn10 := below_new w3 (.cells #[.slice Ax d.length cx, .int .i64 ps, .bool pp, .int .i64 tk, .bool tp, .int .i64 pd] 24)
      replace ot := ot.below hn10
      replace ox := ox.below hn10
      replace rt := rowKeep rt hn10
      clear mt0 mt1 mt2 mt3 mt4 mt5
      obtain ⟨mt0, mt1, mt2, mt3, mt4, mt5⟩ := cells6 rt
      replace hB := below_later hB hn10 (Nat.le_refl _)
      clear hn10
      have rx : (w3.alloc (.cells #[.slice Ax d.length cx, .int .i64 ps, .bool pp, .int .i64 tk, .bool tp, .int .i64 pd] 24)).heap[w3.heap.size]? = some (.cells #[.slice Ax d.length cx, .int .i64 ps, .bool pp, .int .i64 tk, .bool tp, .int .i64 pd] 24 (0, 0)) := heap_alloc_new _ _
      obtain ⟨mx0, mx1, mx2, mx3, mx4, mx5⟩ := cells6 rx
      have s10 : w3.heap.size < (w3.alloc (.cells #[.slice Ax d.length cx, .int .i64 ps, .bool pp, .int .i64 tk, .bool tp, .int .i64 pd] 24)).heap.size := Nat.lt_of_lt_of_eq (Nat.lt_succ_self _) (World.size_alloc _ _).symm
      go_wp2_with fail
      clear k4 k5 k6 k7 k8 k9
      generalize (w3.alloc (.cells #[.slice Ax d.length cx, .int .i64 ps, .bool pp, .int .i64 tk, .bool tp, .int .i64 pd] 24)) = u10 at *
      have q := specPostAnswer_any At d.length ct _ d ps pp tk tp pd v u10 ot.sees (by omega)
      refine q.mono ?_
      clear q
      rintro e w11 ⟨Ay, cy, rfl, oy, b11⟩
      simp only [H1.out, H2.out, postV, ansW, ansR, List.length_nil]
      simp only [H1.out, List.length_nil] at oy
      have s11 := b11.size
      replace ot := ot.below b11
      replace ox := ox.below b11
      replace rt := rowKeep rt b11
      clear mt0 mt1 mt2 mt3 mt4 mt5
      obtain ⟨mt0, mt1, mt2, mt3, mt4, mt5⟩ := cells6 rt
      replace rx := rowKeep rx b11
      clear mx0 mx1 mx2 mx3 mx4 mx5
      obtain ⟨mx0, mx1, mx2, mx3, mx4, mx5⟩ := cells6 rx
      replace hB := below_later hB b11 (Nat.le_refl _)
      clear b11
      have k12 := mt0
      have k13 := mt1
      have k14 := mt2
      have k15 := mt3
      have k16 := mt4
      have k17 := mt5
      have k18 := mx0
      have k19 := mx1
      have k20 := mx2
      have k21 := mx3
      have k22 := mx4
      have k23 := mx5
      have hn24 := below_new w11 (.cells #[.slice Ay d.length cy, .int .i64 ps, .bool pp, .int .i64 tk, .bool tp, .int .i64 pd] 24)
      replace ot := ot.below hn24
      replace ox := ox.below hn24
      replace oy := oy.below hn24
      replace rt := rowKeep rt hn24
      clear mt0 mt1 mt2 mt3 mt4 mt5
      obtain ⟨mt0, mt1, mt2, mt3, mt4, mt5⟩ := cells6 rt
      replace rx := rowKeep rx hn24
      clear mx0 mx1 mx2 mx3 mx4 mx5
      obtain ⟨mx0, mx1, mx2, mx3, mx4, mx5⟩ := cells6 rx
      replace hB := below_later hB hn24 (Nat.le_refl _)
      clear hn24
      have ry : (w11.alloc (.cells #[.slice Ay d.length cy, .int .i64 ps, .bool pp, .int .i64 tk, .bool tp, .int .i64 pd] 24)).heap[w11.heap.size]? = some (.cells #[.slice Ay d.length cy, .int .i64 ps, .bool pp, .int .i64 tk, .bool tp, .int .i64 pd] 24 (0, 0)) := heap_alloc_new _ _
      obtain ⟨my0, my1, my2, my3, my4, my5⟩ := cells6 ry
      have s24 : w11.heap.size < (w11.alloc (.cells #[.slice Ay d.length cy, .int .i64 ps, .bool pp, .int .i64 tk, .bool tp, .int .i64 pd] 24)).heap.size := Nat.lt_of_lt_of_eq (Nat.lt_succ_self _) (World.size_alloc _ _).symm
      go_wp2_with fail
      clear k12 k13 k14 k15 k16 k17 k18 k19 k20 k21 k22 k23
      generalize (w11.alloc (.cells #[.slice Ay d.length cy, .int .i64 ps, .bool pp, .int .i64 tk, .bool tp, .int .i64 pd] 24)) = u24 at *
      refine (sameAnswers_t _ _ _ _ _ _ _ _ _ _ _ _ _ _ _ ox.sees oy.sees (by omega) (by omega)).mono ?_
      rintro e w25 ⟨rfl, b25⟩
      have s25 := b25.size
      replace ot := ot.below b25
      replace ox := ox.below b25
      replace oy := oy.below b25
      replace rt := rowKeep rt b25
      clear mt0 mt1 mt2 mt3 mt4 mt5
      obtain ⟨mt0, mt1, mt2, mt3, mt4, mt5⟩ := cells6 rt
      replace rx := rowKeep rx b25
      clear mx0 mx1 mx2 mx3 mx4 mx5
      obtain ⟨mx0, mx1, mx2, mx3, mx4, mx5⟩ := cells6 rx
      replace ry := rowKeep ry b25
      clear my0 my1 my2 my3 my4 my5
      obtain ⟨my0, my1, my2, my3, my4, my5⟩ := cells6 ry
      replace hB := below_later hB b25 (Nat.le_refl _)
      clear b25
      go_wp2_with fail
      have q := specAnswersValid_any At d.length ct _ d ps pp tk tp pd w25 ot.sees (by omega)
      rw [HV.out] at q
      refine q.mono ?_
      clear q
      rintro e w26 ⟨rfl, b26⟩
      have s26 := b26.size
      replace ot := ot.below b26
      replace ox := ox.below b26
      replace oy := oy.below b26
      replace rt := rowKeep rt b26
      clear mt0 mt1 mt2 mt3 mt4 mt5
      obtain ⟨mt0, mt1, mt2, mt3, mt4, mt5⟩ := cells6 rt
      replace rx := rowKeep rx b26
      clear mx0 mx1 mx2 mx3 mx4 mx5
      obtain ⟨mx0, mx1, mx2, mx3, mx4, mx5⟩ := cells6 rx
      replace ry := rowKeep ry b26
      clear my0 my1 my2 my3 my4 my5
      obtain ⟨my0, my1, my2, my3, my4, my5⟩ := cells6 ry
      replace hB := below_later hB b26 (Nat.le_refl _)
      clear b26
      go_wp2_with fail
      refine (sameAnswers_t _ _ _ _ _ _ _ _ _ _ _ _ _ _ _ ox.sees ot.sees (by omega) (by omega)).mono ?_
      rintro e w27 ⟨rfl, b27⟩
      have s27 := b27.size
      replace ot := ot.below b27
      replace ox := ox.below b27
      replace oy := oy.below b27
      replace rt := rowKeep rt b27
      clear mt0 mt1 mt2 mt3 mt4 mt5
      obtain ⟨mt0, mt1, mt2, mt3, mt4, mt5⟩ := cells6 rt
      replace rx := rowKeep rx b27
      clear mx0 mx1 mx2 mx3 mx4 mx5
      obtain ⟨mx0, mx1, mx2, mx3, mx4, mx5⟩ := cells6 rx
      replace ry := rowKeep ry b27
      clear my0 my1 my2 my3 my4 my5
      obtain ⟨my0, my1, my2, my3, my4, my5⟩ := cells6 ry
      replace hB := below_later hB b27 (Nat.le_refl _)
      clear b27
      go_wp2_with fail
      go_ret
      exact ⟨rfl, hB⟩
    · obtain ⟨d2, ps2, pp2, ⟨h1, h2⟩, h3, h4⟩ := post_room _ _ _ _ _ _ v hv hf
      have hl2 : d2.length ≤ 16 := aval_16 _ h3
      have H1 := Lib.hid h1
      have H2 := Lib.hid h2
      have H3 := Lib.hid h3
      have H4 := Lib.hid h4
      clear h1 h2 h3 h4 hv hf
      go_wp2_with fail
      generalize (w1.alloc (.cells #[.slice At d.length ct, .int .i64 ps, .bool pp, .int .i64 tk, .bool tp, .int .i64 pd] 24)) = u2 at *
      have q := implPostAnswer_any At d.length ct _ d ps pp tk tp pd v u2 ot.sees (by omega)
      refine q.mono ?_
      clear q
      rintro e w3 ⟨Ax, cx, rfl, ox, b3⟩
      simp only [H1.out, H2.out, postV, ansW, ansR, List.length_nil]
      simp only [H1.out, List.length_nil] at ox
      have s3 := b3.size
      replace ot := ot.below b3
      replace rt := rowKeep rt b3
      clear mt0 mt1 mt2 mt3 mt4 mt5
      obtain ⟨mt0, mt1, mt2, mt3, mt4, mt5⟩ := cells6 rt
      replace hB := below_later hB b3 (Nat.le_refl _)
      clear b3
      have k4 := mt0
      have k5 := mt1
      have k6 := mt2
      have k7 := mt3
      have k8 := mt4
      have k9 := mt5
      have hn10 := below_new w3 (.cells #[.slice Ax d2.length cx, .int .i64 ps2, .bool pp2, .int .i64 tk, .bool tp, .int .i64 (pd + 1)] 24)
      replace ot := ot.below hn10
      replace ox := ox.below hn10
      replace rt := rowKeep rt hn10
      clear mt0 mt1 mt2 mt3 mt4 mt5
      obtain ⟨mt0, mt1, mt2, mt3, mt4, mt5⟩ := cells6 rt
      replace hB := below_later hB hn10 (Nat.le_refl _)
      clear hn10
      have rx : (w3.alloc (.cells #[.slice Ax d2.length cx, .int .i64 ps2, .bool pp2, .int .i64 tk, .bool tp, .int .i64 (pd + 1)] 24)).heap[w3.heap.size]? = some (.cells #[.slice Ax d2.length cx, .int .i64 ps2, .bool pp2, .int .i64 tk, .bool tp, .int .i64 (pd + 1)] 24 (0, 0)) := heap_alloc_new _ _
      obtain ⟨mx0, mx1, mx2, mx3, mx4, mx5⟩ := cells6 rx
      have s10 : w3.heap.size < (w3.alloc (.cells #[.slice Ax d2.length cx, .int .i64 ps2, .bool pp2, .int .i64 tk, .bool tp, .int .i64 (pd + 1)] 24)).heap.size := Nat.lt_of_lt_of_eq (Nat.lt_succ_self _) (World.size_alloc _ _).symm
      go_wp2_with fail
      clear k4 k5 k6 k7 k8 k9
      generalize (w3.alloc (.cells #[.slice Ax d2.length cx, .int .i64 ps2, .bool pp2, .int .i64 tk, .bool tp, .int .i64 (pd + 1)] 24)) = u10 at *
      have q := specPostAnswer_any At d.length ct _ d ps pp tk tp pd v u10 ot.sees (by omega)
      refine q.mono ?_
      clear q
      rintro e w11 ⟨Ay, cy, rfl, oy, b11⟩
      simp only [H1.out, H2.out, postV, ansW, ansR, List.length_nil]
      simp only [H1.out, List.length_nil] at oy
      have s11 := b11.size
      replace ot := ot.below b11
      replace ox := ox.below b11
      replace rt := rowKeep rt b11
      clear mt0 mt1 mt2 mt3 mt4 mt5
      obtain ⟨mt0, mt1, mt2, mt3, mt4, mt5⟩ := cells6 rt
      replace rx := rowKeep rx b11
      clear mx0 mx1 mx2 mx3 mx4 mx5
      obtain ⟨mx0, mx1, mx2, mx3, mx4, mx5⟩ := cells6 rx
      replace hB := below_later hB b11 (Nat.le_refl _)
      clear b11
      have k12 := mt0
      have k13 := mt1
      have k14 := mt2
      have k15 := mt3
      have k16 := mt4
      have k17 := mt5
      have k18 := mx0
      have k19 := mx1
      have k20 := mx2
      have k21 := mx3
      have k22 := mx4
      have k23 := mx5
      have hn24 := below_new w11 (.cells #[.slice Ay d2.length cy, .int .i64 ps2, .bool pp2, .int .i64 tk, .bool tp, .int .i64 (pd + 1)] 24)
      replace ot := ot.below hn24
      replace ox := ox.below hn24
      replace oy := oy.below hn24
      replace rt := rowKeep rt hn24
      clear mt0 mt1 mt2 mt3 mt4 mt5
      obtain ⟨mt0, mt1, mt2, mt3, mt4, mt5⟩ := cells6 rt
      replace rx := rowKeep rx hn24
      clear mx0 mx1 mx2 mx3 mx4 mx5
      obtain ⟨mx0, mx1, mx2, mx3, mx4, mx5⟩ := cells6 rx
      replace hB := below_later hB hn24 (Nat.le_refl _)
      clear hn24
      have ry : (w11.alloc (.cells #[.slice Ay d2.length cy, .int .i64 ps2, .bool pp2, .int .i64 tk, .bool tp, .int .i64 (pd + 1)] 24)).heap[w11.heap.size]? = some (.cells #[.slice Ay d2.length cy, .int .i64 ps2, .bool pp2, .int .i64 tk, .bool tp, .int .i64 (pd + 1)] 24 (0, 0)) := heap_alloc_new _ _
      obtain ⟨my0, my1, my2, my3, my4, my5⟩ := cells6 ry
      have s24 : w11.heap.size < (w11.alloc (.cells #[.slice Ay d2.length cy, .int .i64 ps2, .bool pp2, .int .i64 tk, .bool tp, .int .i64 (pd + 1)] 24)).heap.size := Nat.lt_of_lt_of_eq (Nat.lt_succ_self _) (World.size_alloc _ _).symm
      go_wp2_with fail
      clear k12 k13 k14 k15 k16 k17 k18 k19 k20 k21 k22 k23
      generalize (w11.alloc (.cells #[.slice Ay d2.length cy, .int .i64 ps2, .bool pp2, .int .i64 tk, .bool tp, .int .i64 (pd + 1)] 24)) = u24 at *
      refine (sameAnswers_t _ _ _ _ _ _ _ _ _ _ _ _ _ _ _ ox.sees oy.sees (by omega) (by omega)).mono ?_
      rintro e w25 ⟨rfl, b25⟩
      have s25 := b25.size
      replace ot := ot.below b25
      replace ox := ox.below b25
      replace oy := oy.below b25
      replace rt := rowKeep rt b25
      clear mt0 mt1 mt2 mt3 mt4 mt5
      obtain ⟨mt0, mt1, mt2, mt3, mt4, mt5⟩ := cells6 rt
      replace rx := rowKeep rx b25
      clear mx0 mx1 mx2 mx3 mx4 mx5
      obtain ⟨mx0, mx1, mx2, mx3, mx4, mx5⟩ := cells6 rx
      replace ry := rowKeep ry b25
      clear my0 my1 my2 my3 my4 my5
      obtain ⟨my0, my1, my2, my3, my4, my5⟩ := cells6 ry
      replace hB := below_later hB b25 (Nat.le_refl _)
      clear b25
      go_wp2_with fail
      have q := specAnswersValid_any At d.length ct _ d ps pp tk tp pd w25 ot.sees (by omega)
      rw [HV.out] at q
      refine q.mono ?_
      clear q
      rintro e w26 ⟨rfl, b26⟩
      have s26 := b26.size
      replace ot := ot.below b26
      replace ox := ox.below b26
      replace oy := oy.below b26
      replace rt := rowKeep rt b26
      clear mt0 mt1 mt2 mt3 mt4 mt5
      obtain ⟨mt0, mt1, mt2, mt3, mt4, mt5⟩ := cells6 rt
      replace rx := rowKeep rx b26
      clear mx0 mx1 mx2 mx3 mx4 mx5
      obtain ⟨mx0, mx1, mx2, mx3, mx4, mx5⟩ := cells6 rx
      replace ry := rowKeep ry b26
      clear my0 my1 my2 my3 my4 my5
      obtain ⟨my0, my1, my2, my3, my4, my5⟩ := cells6 ry
      replace hB := below_later hB b26 (Nat.le_refl _)
      clear b26
      go_upto_region 14 with fail
      have hsa : AtBoxA w w26 (w1.heap.size) At ct d ps pp tk tp pd _ _ := ⟨rt, ot, by omega, by omega, hB, by omega, by omega⟩
      have hsx : AtBoxA w w26 (w3.heap.size) Ax cx d2 ps2 pp2 tk tp (pd + 1) _ _ := ⟨rx, ox, by omega, by omega, hB, by omega, by omega⟩
      have hy1 : ∃ lo hi, Own w26 lo hi 46 2 Ay d2.length cy (ansC d2) ∧ (w1.heap.size < lo ∧ (w3.heap.size < lo ∧ hi ≤ w26.heap.size)) := ⟨_, _, oy, by omega, by omega, by omega⟩
      have hry := ry
      have hta : ∃ lo hi, AtBoxA w w26 (w1.heap.size) At ct d ps pp tk tp pd lo hi ∧ (hi ≤ w3.heap.size ∨ w3.heap.size < lo) := ⟨_, _, hsa, by omega⟩
      have htx : ∃ lo hi, AtBoxA w w26 (w3.heap.size) Ax cx d2 ps2 pp2 tk tp (pd + 1) lo hi ∧ (hi ≤ w1.heap.size ∨ w1.heap.size < lo) := ⟨_, _, hsx, by omega⟩
      have H0 := Lib.hid (show aval ⟨d, ps, pp, tk, tp, pd⟩ = true ∧ aval ⟨d2, ps2, pp2, tk, tp, (pd + 1)⟩ = true ∧ pd = pd - ((0 : Nat) : Int) ∧ pd + 1 = pd + 1 ∧ als ⟨d2, ps2, pp2, tk, tp, (pd + 1)⟩ = als ⟨d, ps, pp, tk, tp, pd⟩ ++ [v] from ⟨HV.out, H3.out, by omega, rfl, H4.out⟩)
      have hgn : (w1.heap.size ≠ w3.heap.size ∧ w1.heap.size ≠ w11.heap.size) ∧ (w3.heap.size ≠ w11.heap.size ∧ (w.heap.size ≤ w1.heap.size ∧ w.heap.size ≤ w3.heap.size)) ∧ (w1.heap.size < w26.heap.size ∧ w3.heap.size < w26.heap.size) := ⟨⟨by omega, by omega⟩, ⟨by omega, by omega, by omega⟩, by omega, by omega⟩
      obtain ⟨⟨n1, n2⟩, ⟨n3, n4, n5⟩, n6, n7⟩ := hgn
      clear hsa hsx rt rx ry ot ox oy hB mt0 mt1 mt2 mt3 mt4 mt5 mx0 mx1 mx2 mx3 mx4 mx5 my0 my1 my2 my3 my4 my5
      go_loopw [10] (fun i wr => ∃ (j : Nat), (j : Int) ≤ pd ∧ i = .int .i64 j ∧ (∃ A1 c1 tk1 tp1 pd1 A2 c2 tk2 tp2 pd2, (∃ lo hi, AtBoxA w wr (w1.heap.size) A1 c1 d ps pp tk1 tp1 pd1 lo hi ∧ (hi ≤ w3.heap.size ∨ w3.heap.size < lo)) ∧ (∃ lo hi, AtBoxA w wr (w3.heap.size) A2 c2 d2 ps2 pp2 tk2 tp2 pd2 lo hi ∧ (hi ≤ w1.heap.size ∨ w1.heap.size < lo)) ∧ Hid (aval ⟨d, ps, pp, tk1, tp1, pd1⟩ = true ∧ aval ⟨d2, ps2, pp2, tk2, tp2, pd2⟩ = true ∧ pd1 = pd - (j : Int) ∧ pd2 = pd1 + 1 ∧ als ⟨d2, ps2, pp2, tk2, tp2, pd2⟩ = als ⟨d, ps, pp, tk1, tp1, pd1⟩ ++ [v])) ∧ (∃ lo hi, Own wr lo hi 46 2 Ay d2.length cy (ansC d2) ∧ (w1.heap.size < lo ∧ (w3.heap.size < lo ∧ hi ≤ wr.heap.size))) ∧ wr.heap[w11.heap.size]? = some (.cells #[.slice Ay d2.length cy, .int .i64 ps2, .bool pp2, .int .i64 tk, .bool tp, .int .i64 (pd + 1)] 24 (0, 0))) (fun i _ => pd.toNat - (intOf i).toNat)
      case atStart => exact ⟨0, by omega, rfl, ⟨At, ct, tk, tp, pd, Ax, cx, tk, tp, pd + 1, hta, htx, H0⟩, hy1, hry⟩
      case round =>
        clear hta htx H0 hy1 hry
        obtain ⟨j, hj, rfl, ⟨A1, c1, tk1, tp1, pd1, A2, c2, tk2, tp2, pd2, ⟨lo1, hi1, sa, off1⟩, ⟨lo2, hi2, sx, off2⟩, hvj⟩, ⟨lo3, hi3, oy, hy1, hy2, hy3⟩, ry⟩ := hrel
        have rt := sa.row
        have ot := sa.own
        have hB := sa.bel
        have ha1 := sa.off
        have ha2 := sa.hi_
        have ha3 := sa.in_
        have hca := ot.cap
        have rx := sx.row
        have ox := sx.own
        have hx1 := sx.off
        have hx2 := sx.hi_
        have hx3 := sx.in_
        have hcx := ox.cap
        have hry := rowLt ry
        clear sa sx
        by_cases hlt : (j : Int) < pd
        · obtain ⟨mt0, mt1, mt2, mt3, mt4, mt5⟩ := cells6 rt
          obtain ⟨mx0, mx1, mx2, mx3, mx4, mx5⟩ := cells6 rx
          obtain ⟨my0, my1, my2, my3, my4, my5⟩ := cells6 ry
          obtain ⟨hva, hvx, e1, e2, e3⟩ := hvj.out
          obtain ⟨ta, tpa, ta2, tpa2, top, ⟨h1, h2, h3⟩, ⟨h4, h5, h6⟩, h7, h8, h9⟩ := both_cut _ _ _ _ _ _ _ _ _ _ _ _ v hva hvx (by omega) e2 e3
          have KE := Lib.hid (And.intro e1 e2)
          have K1 := Lib.hid h1
          have K2 := Lib.hid h2
          have K3 := Lib.hid h3
          have K4 := Lib.hid h4
          have K5 := Lib.hid h5
          have K6 := Lib.hid h6
          have K7 := Lib.hid h7
          have K8 := Lib.hid h8
          have K9 := Lib.hid h9
          clear hva hvx e1 e2 e3 h1 h2 h3 h4 h5 h6 h7 h8 h9 hvj
          go_wp2_with fail
          have q := implTakeAnswer_any A1 d.length c1 _ d ps pp tk1 tp1 pd1 wr ot.sees ha2
          refine q.mono ?_
          clear q
          rintro e w27 ⟨Ap, cp, rfl, op, b27⟩
          simp only [K1.out, K2.out, K3.out, takeV, ansW, ansR]
          simp only [K1.out] at op
          have s27 := b27.size
          replace ot := ot.below b27
          replace ox := ox.below b27
          replace oy := oy.below b27
          replace rt := rowKeep rt b27
          clear mt0 mt1 mt2 mt3 mt4 mt5
          obtain ⟨mt0, mt1, mt2, mt3, mt4, mt5⟩ := cells6 rt
          replace rx := rowKeep rx b27
          clear mx0 mx1 mx2 mx3 mx4 mx5
          obtain ⟨mx0, mx1, mx2, mx3, mx4, mx5⟩ := cells6 rx
          replace ry := rowKeep ry b27
          clear my0 my1 my2 my3 my4 my5
          obtain ⟨my0, my1, my2, my3, my4, my5⟩ := cells6 ry
          replace hB := below_later hB b27 (Nat.le_refl _)
          clear b27
          have k28 := mt0
          have k29 := mt1
          have k30 := mt2
          have k31 := mt3
          have k32 := mt4
          have k33 := mt5
          have k34 := mx0
          have k35 := mx1
          have k36 := mx2
          have k37 := mx3
          have k38 := mx4
          have k39 := mx5
          have k40 := my0
          have k41 := my1
          have k42 := my2
          have k43 := my3
          have k44 := my4
          have k45 := my5
          have hn46 := below_new w27 (.cells #[.slice Ap d.length cp, .int .i64 ps, .bool pp, .int .i64 ta, .bool tpa, .int .i64 (pd1 - 1)] 24)
          replace ot := ot.below hn46
          replace ox := ox.below hn46
          replace oy := oy.below hn46
          replace op := op.below hn46
          replace rt := rowKeep rt hn46
          clear mt0 mt1 mt2 mt3 mt4 mt5
          obtain ⟨mt0, mt1, mt2, mt3, mt4, mt5⟩ := cells6 rt
          replace rx := rowKeep rx hn46
          clear mx0 mx1 mx2 mx3 mx4 mx5
          obtain ⟨mx0, mx1, mx2, mx3, mx4, mx5⟩ := cells6 rx
          replace ry := rowKeep ry hn46
          clear my0 my1 my2 my3 my4 my5
          obtain ⟨my0, my1, my2, my3, my4, my5⟩ := cells6 ry
          replace hB := below_later hB hn46 (Nat.le_refl _)
          clear hn46
          have rp : (w27.alloc (.cells #[.slice Ap d.length cp, .int .i64 ps, .bool pp, .int .i64 ta, .bool tpa, .int .i64 (pd1 - 1)] 24)).heap[w27.heap.size]? = some (.cells #[.slice Ap d.length cp, .int .i64 ps, .bool pp, .int .i64 ta, .bool tpa, .int .i64 (pd1 - 1)] 24 (0, 0)) := heap_alloc_new _ _
          obtain ⟨mp0, mp1, mp2, mp3, mp4, mp5⟩ := cells6 rp
          have s46 : w27.heap.size < (w27.alloc (.cells #[.slice Ap d.length cp, .int .i64 ps, .bool pp, .int .i64 ta, .bool tpa, .int .i64 (pd1 - 1)] 24)).heap.size := Nat.lt_of_lt_of_eq (Nat.lt_succ_self _) (World.size_alloc _ _).symm
          go_wp2_with fail
          clear k28 k29 k30 k31 k32 k33 k34 k35 k36 k37 k38 k39 k40 k41 k42 k43 k44 k45
          generalize (w27.alloc (.cells #[.slice Ap d.length cp, .int .i64 ps, .bool pp, .int .i64 ta, .bool tpa, .int .i64 (pd1 - 1)] 24)) = u46 at *
          have q := implTakeAnswer_any A2 d2.length c2 _ d2 ps2 pp2 tk2 tp2 pd2 u46 ox.sees (by omega)
          refine q.mono ?_
          clear q
          rintro e w47 ⟨Aq, cq, rfl, oq, b47⟩
          simp only [K4.out, K5.out, K6.out, takeV, ansW, ansR]
          simp only [K4.out] at oq
          have s47 := b47.size
          replace ot := ot.below b47
          replace ox := ox.below b47
          replace oy := oy.below b47
          replace op := op.below b47
          replace rt := rowKeep rt b47
          clear mt0 mt1 mt2 mt3 mt4 mt5
          obtain ⟨mt0, mt1, mt2, mt3, mt4, mt5⟩ := cells6 rt
          replace rx := rowKeep rx b47
          clear mx0 mx1 mx2 mx3 mx4 mx5
          obtain ⟨mx0, mx1, mx2, mx3, mx4, mx5⟩ := cells6 rx
          replace ry := rowKeep ry b47
          clear my0 my1 my2 my3 my4 my5
          obtain ⟨my0, my1, my2, my3, my4, my5⟩ := cells6 ry
          replace rp := rowKeep rp b47
          clear mp0 mp1 mp2 mp3 mp4 mp5
          obtain ⟨mp0, mp1, mp2, mp3, mp4, mp5⟩ := cells6 rp
          replace hB := below_later hB b47 (Nat.le_refl _)
          clear b47
          have k48 := mt0
          have k49 := mt1
          have k50 := mt2
          have k51 := mt3
          have k52 := mt4
          have k53 := mt5
          have k54 := mx0
          have k55 := mx1
          have k56 := mx2
          have k57 := mx3
          have k58 := mx4
          have k59 := mx5
          have k60 := my0
          have k61 := my1
          have k62 := my2
          have k63 := my3
          have k64 := my4
          have k65 := my5
          have k66 := mp0
          have k67 := mp1
          have k68 := mp2
          have k69 := mp3
          have k70 := mp4
          have k71 := mp5
          have hn72 := below_new w47 (.cells #[.slice Aq d2.length cq, .int .i64 ps2, .bool pp2, .int .i64 ta2, .bool tpa2, .int .i64 (pd2 - 1)] 24)
          replace ot := ot.below hn72
          replace ox := ox.below hn72
          replace oy := oy.below hn72
          replace op := op.below hn72
          replace oq := oq.below hn72
          replace rt := rowKeep rt hn72
          clear mt0 mt1 mt2 mt3 mt4 mt5
          obtain ⟨mt0, mt1, mt2, mt3, mt4, mt5⟩ := cells6 rt
          replace rx := rowKeep rx hn72
          clear mx0 mx1 mx2 mx3 mx4 mx5
          obtain ⟨mx0, mx1, mx2, mx3, mx4, mx5⟩ := cells6 rx
          replace ry := rowKeep ry hn72
          clear my0 my1 my2 my3 my4 my5
          obtain ⟨my0, my1, my2, my3, my4, my5⟩ := cells6 ry
          replace rp := rowKeep rp hn72
          clear mp0 mp1 mp2 mp3 mp4 mp5
          obtain ⟨mp0, mp1, mp2, mp3, mp4, mp5⟩ := cells6 rp
          replace hB := below_later hB hn72 (Nat.le_refl _)
          clear hn72
          have rq : (w47.alloc (.cells #[.slice Aq d2.length cq, .int .i64 ps2, .bool pp2, .int .i64 ta2, .bool tpa2, .int .i64 (pd2 - 1)] 24)).heap[w47.heap.size]? = some (.cells #[.slice Aq d2.length cq, .int .i64 ps2, .bool pp2, .int .i64 ta2, .bool tpa2, .int .i64 (pd2 - 1)] 24 (0, 0)) := heap_alloc_new _ _
          obtain ⟨mq0, mq1, mq2, mq3, mq4, mq5⟩ := cells6 rq
          have s72 : w47.heap.size < (w47.alloc (.cells #[.slice Aq d2.length cq, .int .i64 ps2, .bool pp2, .int .i64 ta2, .bool tpa2, .int .i64 (pd2 - 1)] 24)).heap.size := Nat.lt_of_lt_of_eq (Nat.lt_succ_self _) (World.size_alloc _ _).symm
          go_upto_region 20 with fail
          clear k48 k49 k50 k51 k52 k53 k54 k55 k56 k57 k58 k59 k60 k61 k62 k63 k64 k65 k66 k67 k68 k69 k70 k71
          generalize (w47.alloc (.cells #[.slice Aq d2.length cq, .int .i64 ps2, .bool pp2, .int .i64 ta2, .bool tpa2, .int .i64 (pd2 - 1)] 24)) = u72 at *
          obtain ⟨z0, z1, z2, z3, z4, z5⟩ := frz6 rt
          have HSA : AtBoxA w ((((((u72.setCell ⟨w1.heap.size, 0, none⟩ (.slice Ap d.length cp)).setCell ⟨w1.heap.size, 1, none⟩ (.int .i64 ps)).setCell ⟨w1.heap.size, 2, none⟩ (.bool pp)).setCell ⟨w1.heap.size, 3, none⟩ (.int .i64 ta)).setCell ⟨w1.heap.size, 4, none⟩ (.bool tpa)).setCell ⟨w1.heap.size, 5, none⟩ (.int .i64 (pd1 - 1))) (w1.heap.size) Ap cp d ps pp ta tpa (pd1 - 1) _ _ := AtBoxA.put (d2 := d) rt op (by omega) (by omega) hB ha3.1
          replace rx : ((((((u72.setCell ⟨w1.heap.size, 0, none⟩ (.slice Ap d.length cp)).setCell ⟨w1.heap.size, 1, none⟩ (.int .i64 ps)).setCell ⟨w1.heap.size, 2, none⟩ (.bool pp)).setCell ⟨w1.heap.size, 3, none⟩ (.int .i64 ta)).setCell ⟨w1.heap.size, 4, none⟩ (.bool tpa)).setCell ⟨w1.heap.size, 5, none⟩ (.int .i64 (pd1 - 1))).heap[w3.heap.size]? = _ := rowSet6 (g := w1.heap.size) rx (by omega) (.slice Ap d.length cp) (.int .i64 ps) (.bool pp) (.int .i64 ta) (.bool tpa) (.int .i64 (pd1 - 1))
          replace ry : ((((((u72.setCell ⟨w1.heap.size, 0, none⟩ (.slice Ap d.length cp)).setCell ⟨w1.heap.size, 1, none⟩ (.int .i64 ps)).setCell ⟨w1.heap.size, 2, none⟩ (.bool pp)).setCell ⟨w1.heap.size, 3, none⟩ (.int .i64 ta)).setCell ⟨w1.heap.size, 4, none⟩ (.bool tpa)).setCell ⟨w1.heap.size, 5, none⟩ (.int .i64 (pd1 - 1))).heap[w11.heap.size]? = _ := rowSet6 (g := w1.heap.size) ry (by omega) (.slice Ap d.length cp) (.int .i64 ps) (.bool pp) (.int .i64 ta) (.bool tpa) (.int .i64 (pd1 - 1))
          replace rq : ((((((u72.setCell ⟨w1.heap.size, 0, none⟩ (.slice Ap d.length cp)).setCell ⟨w1.heap.size, 1, none⟩ (.int .i64 ps)).setCell ⟨w1.heap.size, 2, none⟩ (.bool pp)).setCell ⟨w1.heap.size, 3, none⟩ (.int .i64 ta)).setCell ⟨w1.heap.size, 4, none⟩ (.bool tpa)).setCell ⟨w1.heap.size, 5, none⟩ (.int .i64 (pd1 - 1))).heap[w47.heap.size]? = _ := rowSet6 (g := w1.heap.size) rq (by omega) (.slice Ap d.length cp) (.int .i64 ps) (.bool pp) (.int .i64 ta) (.bool tpa) (.int .i64 (pd1 - 1))
          replace oq : Own ((((((u72.setCell ⟨w1.heap.size, 0, none⟩ (.slice Ap d.length cp)).setCell ⟨w1.heap.size, 1, none⟩ (.int .i64 ps)).setCell ⟨w1.heap.size, 2, none⟩ (.bool pp)).setCell ⟨w1.heap.size, 3, none⟩ (.int .i64 ta)).setCell ⟨w1.heap.size, 4, none⟩ (.bool tpa)).setCell ⟨w1.heap.size, 5, none⟩ (.int .i64 (pd1 - 1))) _ _ _ _ _ _ _ _ := own6 (g := w1.heap.size) oq (by omega) (.slice Ap d.length cp) (.int .i64 ps) (.bool pp) (.int .i64 ta) (.bool tpa) (.int .i64 (pd1 - 1))
          replace oy : Own ((((((u72.setCell ⟨w1.heap.size, 0, none⟩ (.slice Ap d.length cp)).setCell ⟨w1.heap.size, 1, none⟩ (.int .i64 ps)).setCell ⟨w1.heap.size, 2, none⟩ (.bool pp)).setCell ⟨w1.heap.size, 3, none⟩ (.int .i64 ta)).setCell ⟨w1.heap.size, 4, none⟩ (.bool tpa)).setCell ⟨w1.heap.size, 5, none⟩ (.int .i64 (pd1 - 1))) _ _ _ _ _ _ _ _ := own6 (g := w1.heap.size) oy (by omega) (.slice Ap d.length cp) (.int .i64 ps) (.bool pp) (.int .i64 ta) (.bool tpa) (.int .i64 (pd1 - 1))
          replace hB : Below w.heap.size w ((((((u72.setCell ⟨w1.heap.size, 0, none⟩ (.slice Ap d.length cp)).setCell ⟨w1.heap.size, 1, none⟩ (.int .i64 ps)).setCell ⟨w1.heap.size, 2, none⟩ (.bool pp)).setCell ⟨w1.heap.size, 3, none⟩ (.int .i64 ta)).setCell ⟨w1.heap.size, 4, none⟩ (.bool tpa)).setCell ⟨w1.heap.size, 5, none⟩ (.int .i64 (pd1 - 1))) := below6 hB n4 (.slice Ap d.length cp) (.int .i64 ps) (.bool pp) (.int .i64 ta) (.bool tpa) (.int .i64 (pd1 - 1))
          have hsz : ((((((u72.setCell ⟨w1.heap.size, 0, none⟩ (.slice Ap d.length cp)).setCell ⟨w1.heap.size, 1, none⟩ (.int .i64 ps)).setCell ⟨w1.heap.size, 2, none⟩ (.bool pp)).setCell ⟨w1.heap.size, 3, none⟩ (.int .i64 ta)).setCell ⟨w1.heap.size, 4, none⟩ (.bool tpa)).setCell ⟨w1.heap.size, 5, none⟩ (.int .i64 (pd1 - 1))).heap.size = u72.heap.size := size6 _ _ _ _ _ _ _ _
          replace HSA := Lib.hid HSA
          clear rt rp ot op ox
          go_upto_region 21 with fail
          clear z0 z1 z2 z3 z4 z5 mt0 mt1 mt2 mt3 mt4 mt5 mx0 mx1 mx2 mx3 mx4 mx5 my0 my1 my2 my3 my4 my5 mp0 mp1 mp2 mp3 mp4 mp5 mq0 mq1 mq2 mq3 mq4 mq5
          have hsz1 : u72.heap.size ≤ ((((((u72.setCell ⟨w1.heap.size, 0, none⟩ (.slice Ap d.length cp)).setCell ⟨w1.heap.size, 1, none⟩ (.int .i64 ps)).setCell ⟨w1.heap.size, 2, none⟩ (.bool pp)).setCell ⟨w1.heap.size, 3, none⟩ (.int .i64 ta)).setCell ⟨w1.heap.size, 4, none⟩ (.bool tpa)).setCell ⟨w1.heap.size, 5, none⟩ (.int .i64 (pd1 - 1))).heap.size := Nat.le_of_eq hsz.symm
          clear hsz
          generalize ((((((u72.setCell ⟨w1.heap.size, 0, none⟩ (.slice Ap d.length cp)).setCell ⟨w1.heap.size, 1, none⟩ (.int .i64 ps)).setCell ⟨w1.heap.size, 2, none⟩ (.bool pp)).setCell ⟨w1.heap.size, 3, none⟩ (.int .i64 ta)).setCell ⟨w1.heap.size, 4, none⟩ (.bool tpa)).setCell ⟨w1.heap.size, 5, none⟩ (.int .i64 (pd1 - 1))) = u73 at *
          obtain ⟨mx0, mx1, mx2, mx3, mx4, mx5⟩ := cells6 rx
          obtain ⟨mq0, mq1, mq2, mq3, mq4, mq5⟩ := cells6 rq
          obtain ⟨z0, z1, z2, z3, z4, z5⟩ := frz6 rx
          have HSX := Lib.hid (show AtBoxA w ((((((u73.setCell ⟨w3.heap.size, 0, none⟩ (.slice Aq d2.length cq)).setCell ⟨w3.heap.size, 1, none⟩ (.int .i64 ps2)).setCell ⟨w3.heap.size, 2, none⟩ (.bool pp2)).setCell ⟨w3.heap.size, 3, none⟩ (.int .i64 ta2)).setCell ⟨w3.heap.size, 4, none⟩ (.bool tpa2)).setCell ⟨w3.heap.size, 5, none⟩ (.int .i64 (pd2 - 1))) (w3.heap.size) Aq cq d2 ps2 pp2 ta2 tpa2 (pd2 - 1) _ _ from AtBoxA.put (d2 := d2) rx oq (by omega) (by omega) hB n5)
          have HSB := Lib.hid (show AtBoxA w ((((((u73.setCell ⟨w3.heap.size, 0, none⟩ (.slice Aq d2.length cq)).setCell ⟨w3.heap.size, 1, none⟩ (.int .i64 ps2)).setCell ⟨w3.heap.size, 2, none⟩ (.bool pp2)).setCell ⟨w3.heap.size, 3, none⟩ (.int .i64 ta2)).setCell ⟨w3.heap.size, 4, none⟩ (.bool tpa2)).setCell ⟨w3.heap.size, 5, none⟩ (.int .i64 (pd2 - 1))) (w1.heap.size) Ap cp d ps pp ta tpa (pd1 - 1) _ _ from HSA.out.other n1 (by omega) n5 (.slice Aq d2.length cq) (.int .i64 ps2) (.bool pp2) (.int .i64 ta2) (.bool tpa2) (.int .i64 (pd2 - 1)))
          have HOY := Lib.hid (show Own ((((((u73.setCell ⟨w3.heap.size, 0, none⟩ (.slice Aq d2.length cq)).setCell ⟨w3.heap.size, 1, none⟩ (.int .i64 ps2)).setCell ⟨w3.heap.size, 2, none⟩ (.bool pp2)).setCell ⟨w3.heap.size, 3, none⟩ (.int .i64 ta2)).setCell ⟨w3.heap.size, 4, none⟩ (.bool tpa2)).setCell ⟨w3.heap.size, 5, none⟩ (.int .i64 (pd2 - 1))) _ _ _ _ _ _ _ _ ∧ (w1.heap.size < lo3 ∧ (w3.heap.size < lo3 ∧ hi3 ≤ ((((((u73.setCell ⟨w3.heap.size, 0, none⟩ (.slice Aq d2.length cq)).setCell ⟨w3.heap.size, 1, none⟩ (.int .i64 ps2)).setCell ⟨w3.heap.size, 2, none⟩ (.bool pp2)).setCell ⟨w3.heap.size, 3, none⟩ (.int .i64 ta2)).setCell ⟨w3.heap.size, 4, none⟩ (.bool tpa2)).setCell ⟨w3.heap.size, 5, none⟩ (.int .i64 (pd2 - 1))).heap.size)) from ⟨own6 (g := w3.heap.size) oy (by omega) (.slice Aq d2.length cq) (.int .i64 ps2) (.bool pp2) (.int .i64 ta2) (.bool tpa2) (.int .i64 (pd2 - 1)), hy1, hy2, by have e6 : ((((((u73.setCell ⟨w3.heap.size, 0, none⟩ (.slice Aq d2.length cq)).setCell ⟨w3.heap.size, 1, none⟩ (.int .i64 ps2)).setCell ⟨w3.heap.size, 2, none⟩ (.bool pp2)).setCell ⟨w3.heap.size, 3, none⟩ (.int .i64 ta2)).setCell ⟨w3.heap.size, 4, none⟩ (.bool tpa2)).setCell ⟨w3.heap.size, 5, none⟩ (.int .i64 (pd2 - 1))).heap.size = u73.heap.size := size6 _ _ _ _ _ _ _ _; omega⟩)
          have HRY := Lib.hid (show ((((((u73.setCell ⟨w3.heap.size, 0, none⟩ (.slice Aq d2.length cq)).setCell ⟨w3.heap.size, 1, none⟩ (.int .i64 ps2)).setCell ⟨w3.heap.size, 2, none⟩ (.bool pp2)).setCell ⟨w3.heap.size, 3, none⟩ (.int .i64 ta2)).setCell ⟨w3.heap.size, 4, none⟩ (.bool tpa2)).setCell ⟨w3.heap.size, 5, none⟩ (.int .i64 (pd2 - 1))).heap[w11.heap.size]? = _ from rowSet6 (g := w3.heap.size) ry (by omega) (.slice Aq d2.length cq) (.int .i64 ps2) (.bool pp2) (.int .i64 ta2) (.bool tpa2) (.int .i64 (pd2 - 1)))
          skip
          have e1 : IntKind.i64.wrap ((j : Int) + 1) = (j : Int) + 1 := IntWalk.i64_in _ (by omega)
          clear rx ry rq oq oy hB HSA
          go_wp2_with fail
          go_roundw
          case rel => exact ⟨j + 1, by omega, by go_num, ⟨Ap, cp, _, _, _, Aq, cq, _, _, _, ⟨_, _, HSB.out, by omega⟩, ⟨_, _, HSX.out, by omega⟩, Lib.hid ⟨K7.out, K8.out, by have := KE.out.1; omega, by have := KE.out.2; omega, K9.out⟩⟩, ⟨_, _, HOY.out⟩, HRY.out⟩
          case measure => simp [intOf]; omega
        · have hjp : (j : Int) = pd := by omega
          obtain ⟨hva, hvx, e1, e2, e3⟩ := hvj.out
          obtain ⟨h1, h2, ed, eps, epp, etk, etp, epd, h3, hle⟩ := last_cut _ _ _ _ _ _ _ _ _ _ _ _ v hvx (by omega) e2 e3
          have K1 := Lib.hid h1
          have K2 := Lib.hid h2
          have K3 := Lib.hid h3
          have KX := Lib.hid hvx
          clear hva hvx e1 e2 e3 h1 h2 h3 hvj hjp
          obtain ⟨mt0, mt1, mt2, mt3, mt4, mt5⟩ := cells6 rt
          obtain ⟨mx0, mx1, mx2, mx3, mx4, mx5⟩ := cells6 rx
          obtain ⟨my0, my1, my2, my3, my4, my5⟩ := cells6 ry
          go_wp2_with fail
          have q := implTakeAnswer_any A2 d2.length c2 _ d2 ps2 pp2 tk2 tp2 pd2 wr ox.sees (by omega)
          refine q.mono ?_
          clear q
          rintro e w27 ⟨Ae, ce, rfl, oe, b27⟩
          simp only [K1.out, K2.out, K3.out, takeV, ansW, ansR]
          simp only [K3.out] at oe
          have s27 := b27.size
          replace ot := ot.below b27
          replace ox := ox.below b27
          replace oy := oy.below b27
          replace rt := rowKeep rt b27
          clear mt0 mt1 mt2 mt3 mt4 mt5
          obtain ⟨mt0, mt1, mt2, mt3, mt4, mt5⟩ := cells6 rt
          replace rx := rowKeep rx b27
          clear mx0 mx1 mx2 mx3 mx4 mx5
          obtain ⟨mx0, mx1, mx2, mx3, mx4, mx5⟩ := cells6 rx
          replace ry := rowKeep ry b27
          clear my0 my1 my2 my3 my4 my5
          obtain ⟨my0, my1, my2, my3, my4, my5⟩ := cells6 ry
          replace hB := below_later hB b27 (Nat.le_refl _)
          clear b27
          have k28 := mt0
          have k29 := mt1
          have k30 := mt2
          have k31 := mt3
          have k32 := mt4
          have k33 := mt5
          have k34 := mx0
          have k35 := mx1
          have k36 := mx2
          have k37 := mx3
          have k38 := mx4
          have k39 := mx5
          have k40 := my0
          have k41 := my1
          have k42 := my2
          have k43 := my3
          have k44 := my4
          have k45 := my5
          have hn46 := below_new w27 (.cells #[.slice Ae ed.length ce, .int .i64 eps, .bool epp, .int .i64 etk, .bool etp, .int .i64 epd] 24)
          replace ot := ot.below hn46
          replace ox := ox.below hn46
          replace oy := oy.below hn46
          replace oe := oe.below hn46
          replace rt := rowKeep rt hn46
          clear mt0 mt1 mt2 mt3 mt4 mt5
          obtain ⟨mt0, mt1, mt2, mt3, mt4, mt5⟩ := cells6 rt
          replace rx := rowKeep rx hn46
          clear mx0 mx1 mx2 mx3 mx4 mx5
          obtain ⟨mx0, mx1, mx2, mx3, mx4, mx5⟩ := cells6 rx
          replace ry := rowKeep ry hn46
          clear my0 my1 my2 my3 my4 my5
          obtain ⟨my0, my1, my2, my3, my4, my5⟩ := cells6 ry
          replace hB := below_later hB hn46 (Nat.le_refl _)
          clear hn46
          have re : (w27.alloc (.cells #[.slice Ae ed.length ce, .int .i64 eps, .bool epp, .int .i64 etk, .bool etp, .int .i64 epd] 24)).heap[w27.heap.size]? = some (.cells #[.slice Ae ed.length ce, .int .i64 eps, .bool epp, .int .i64 etk, .bool etp, .int .i64 epd] 24 (0, 0)) := heap_alloc_new _ _
          obtain ⟨me0, me1, me2, me3, me4, me5⟩ := cells6 re
          have s46 : w27.heap.size < (w27.alloc (.cells #[.slice Ae ed.length ce, .int .i64 eps, .bool epp, .int .i64 etk, .bool etp, .int .i64 epd] 24)).heap.size := Nat.lt_of_lt_of_eq (Nat.lt_succ_self _) (World.size_alloc _ _).symm
          go_wp2_with fail
          clear k28 k29 k30 k31 k32 k33 k34 k35 k36 k37 k38 k39 k40 k41 k42 k43 k44 k45
          generalize (w27.alloc (.cells #[.slice Ae ed.length ce, .int .i64 eps, .bool epp, .int .i64 etk, .bool etp, .int .i64 epd] 24)) = u46 at *
          have q := implAnswersValid_any Ay d2.length cy _ d2 ps2 pp2 tk tp (pd + 1) u46 oy.sees (by omega)
          rw [H3.out] at q
          refine q.mono ?_
          clear q
          rintro e w47 ⟨rfl, b47⟩
          have s47 := b47.size
          replace ot := ot.below b47
          replace ox := ox.below b47
          replace oy := oy.below b47
          replace oe := oe.below b47
          replace rt := rowKeep rt b47
          clear mt0 mt1 mt2 mt3 mt4 mt5
          obtain ⟨mt0, mt1, mt2, mt3, mt4, mt5⟩ := cells6 rt
          replace rx := rowKeep rx b47
          clear mx0 mx1 mx2 mx3 mx4 mx5
          obtain ⟨mx0, mx1, mx2, mx3, mx4, mx5⟩ := cells6 rx
          replace ry := rowKeep ry b47
          clear my0 my1 my2 my3 my4 my5
          obtain ⟨my0, my1, my2, my3, my4, my5⟩ := cells6 ry
          replace re := rowKeep re b47
          clear me0 me1 me2 me3 me4 me5
          obtain ⟨me0, me1, me2, me3, me4, me5⟩ := cells6 re
          replace hB := below_later hB b47 (Nat.le_refl _)
          clear b47
          go_wp2_with fail
          have q := implAnswersValid_any A2 d2.length c2 _ d2 ps2 pp2 tk2 tp2 pd2 w47 ox.sees (by omega)
          rw [KX.out] at q
          refine q.mono ?_
          clear q
          rintro e w48 ⟨rfl, b48⟩
          have s48 := b48.size
          replace ot := ot.below b48
          replace ox := ox.below b48
          replace oy := oy.below b48
          replace oe := oe.below b48
          replace rt := rowKeep rt b48
          clear mt0 mt1 mt2 mt3 mt4 mt5
          obtain ⟨mt0, mt1, mt2, mt3, mt4, mt5⟩ := cells6 rt
          replace rx := rowKeep rx b48
          clear mx0 mx1 mx2 mx3 mx4 mx5
          obtain ⟨mx0, mx1, mx2, mx3, mx4, mx5⟩ := cells6 rx
          replace ry := rowKeep ry b48
          clear my0 my1 my2 my3 my4 my5
          obtain ⟨my0, my1, my2, my3, my4, my5⟩ := cells6 ry
          replace re := rowKeep re b48
          clear me0 me1 me2 me3 me4 me5
          obtain ⟨me0, me1, me2, me3, me4, me5⟩ := cells6 re
          replace hB := below_later hB b48 (Nat.le_refl _)
          clear b48
          go_wp2_with fail
          go_ret
          exact ⟨rfl, hB⟩
end Go.Proofs.Ythkiollagnjfaaa
