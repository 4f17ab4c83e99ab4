/-
  Walk: the law FnAnswersLap returns true.
-/
import Derived.Deep.DeepCutAuto
import Derived.Deep.RegionHeld3
import Derived.IntWalk
import Derived.Test.YthkiollagnjfaaaN14
import Derived.Test.YthkiollagnjfaaaN15
import Derived.Test.YthkiollagnjfaaaN5
import Derived.Test.YthkiollagnjfaaaS3
import Derived.Test.YthkiollagnjfaaaA
namespace Go.Proofs.Ythkiollagnjfaaa
open Go.RowKit
set_option linter.unusedSimpArgs false
set_option linter.unusedVariables false
set_option maxHeartbeats 8000000 in
theorem law_FnAnswersLap (w : World) (A : Option Addr) (n c : Nat) (bs : List Int) (h : Sees w w.heap.size 1 A n c (byts bs)) (hb : ∀ v ∈ bs, 0 ≤ v ∧ v ≤ 255) :
    Calls Try.prog 10 #[.slice A n c] w (RetPure w (.bool true)) := by
  have hc1 := h.cap
  have hc2 := h.big
  by_cases hn : 1048576 < n
  · go_enter Try.func10, Try.ntmps10
    go_wp2_with fail
    go_ret
    exact ⟨rfl, Below.refl _ _⟩
  have hB : Below w.heap.size w w := Below.refl _ _
  go_enter Try.func10, Try.ntmps10
  go_wp2_with fail
  refine (drawTakeAnswer_any _ _ _ _ _ _ h (Nat.le_refl _) hb).mono ?_
  rintro e w1 ⟨At, ct, d, ps, pp, tk, tp, pd, rfl, ⟨ot, hd17⟩, b1⟩
  have s1 := b1.size
  replace hB := below_later hB b1 (Nat.le_refl _)
  clear b1
  clear h hb
  have hct := ot.cap
  have hn2 := below_new w1 (.cells #[.slice At d.length ct, .int .i64 ps, .bool pp, .int .i64 tk, .bool tp, .int .i64 pd] 24)
  replace ot := ot.below hn2
  replace hB := below_later hB hn2 (Nat.le_refl _)
  clear hn2
  have rt : (w1.alloc (.cells #[.slice At d.length ct, .int .i64 ps, .bool pp, .int .i64 tk, .bool tp, .int .i64 pd] 24)).heap[w1.heap.size]? = some (.cells #[.slice At d.length ct, .int .i64 ps, .bool pp, .int .i64 tk, .bool tp, .int .i64 pd] 24 (0, 0)) := heap_alloc_new _ _
  obtain ⟨mt0, mt1, mt2, mt3, mt4, mt5⟩ := cells6 rt
  have s2 : w1.heap.size < (w1.alloc (.cells #[.slice At d.length ct, .int .i64 ps, .bool pp, .int .i64 tk, .bool tp, .int .i64 pd] 24)).heap.size := Nat.lt_of_lt_of_eq (Nat.lt_succ_self _) (World.size_alloc _ _).symm
  cases hv : aval ⟨d, ps, pp, tk, tp, pd⟩
  · have HV := Lib.hid hv
    have haz : az = ⟨[], 0, false, 0, false, 0⟩ := rfl
    obtain ⟨h1, h2, h3⟩ := atake_no _ hv
    rw [haz] at h1
    have H1 := Lib.hid h1
    have H2 := Lib.hid h2
    have H3 := Lib.hid h3
    clear h1 h2 h3 haz hv
    go_wp2_with fail
    generalize (w1.alloc (.cells #[.slice At d.length ct, .int .i64 ps, .bool pp, .int .i64 tk, .bool tp, .int .i64 pd] 24)) = u2 at *
    have q := implTakeAnswer_any At d.length ct _ d ps pp tk tp pd u2 ot.sees (by omega)
    refine q.mono ?_
    clear q
    rintro e w3 ⟨Ax, cx, rfl, ox, b3⟩
    simp only [H1.out, H2.out, H3.out, takeV, ansW, ansR, List.length_nil]
    simp only [H1.out, List.length_nil] at ox
    have s3 := b3.size
    replace ot := ot.below b3
    replace rt := rowKeep rt b3
    clear mt0 mt1 mt2 mt3 mt4 mt5
    obtain ⟨mt0, mt1, mt2, mt3, mt4, mt5⟩ := cells6 rt
    replace hB := below_later hB b3 (Nat.le_refl _)
    clear b3
    have k4 := mt0
    have k5 := mt1
    have k6 := mt2
    have k7 := mt3
    have k8 := mt4
    have k9 := mt5
    have hn10 := below_new w3 (.cells #[.slice Ax 0 cx, .int .i64 0, .bool false, .int .i64 0, .bool false, .int .i64 0] 24)
    replace ot := ot.below hn10
    replace ox := ox.below hn10
    replace rt := rowKeep rt hn10
    clear mt0 mt1 mt2 mt3 mt4 mt5
    obtain ⟨mt0, mt1, mt2, mt3, mt4, mt5⟩ := cells6 rt
    replace hB := below_later hB hn10 (Nat.le_refl _)
    clear hn10
    have rx : (w3.alloc (.cells #[.slice Ax 0 cx, .int .i64 0, .bool false, .int .i64 0, .bool false, .int .i64 0] 24)).heap[w3.heap.size]? = some (.cells #[.slice Ax 0 cx, .int .i64 0, .bool false, .int .i64 0, .bool false, .int .i64 0] 24 (0, 0)) := heap_alloc_new _ _
    obtain ⟨mx0, mx1, mx2, mx3, mx4, mx5⟩ := cells6 rx
    have s10 : w3.heap.size < (w3.alloc (.cells #[.slice Ax 0 cx, .int .i64 0, .bool false, .int .i64 0, .bool false, .int .i64 0] 24)).heap.size := Nat.lt_of_lt_of_eq (Nat.lt_succ_self _) (World.size_alloc _ _).symm
    go_wp2_with fail
    clear k4 k5 k6 k7 k8 k9
    generalize (w3.alloc (.cells #[.slice Ax 0 cx, .int .i64 0, .bool false, .int .i64 0, .bool false, .int .i64 0] 24)) = u10 at *
    have q := specTakeAnswer_any At d.length ct _ d ps pp tk tp pd u10 ot.sees (by omega)
    refine q.mono ?_
    clear q
    rintro e w11 ⟨Ay, cy, rfl, oy, b11⟩
    simp only [H1.out, H2.out, H3.out, takeV, ansW, ansR, List.length_nil]
    simp only [H1.out, List.length_nil] at oy
    have s11 := b11.size
    replace ot := ot.below b11
    replace ox := ox.below b11
    replace rt := rowKeep rt b11
    clear mt0 mt1 mt2 mt3 mt4 mt5
    obtain ⟨mt0, mt1, mt2, mt3, mt4, mt5⟩ := cells6 rt
    replace rx := rowKeep rx b11
    clear mx0 mx1 mx2 mx3 mx4 mx5
    obtain ⟨mx0, mx1, mx2, mx3, mx4, mx5⟩ := cells6 rx
    replace hB := below_later hB b11 (Nat.le_refl _)
    clear b11
    have k12 := mt0
    have k13 := mt1
    have k14 := mt2
    have k15 := mt3
    have k16 := mt4
    have k17 := mt5
    have k18 := mx0
    have k19 := mx1
    have k20 := mx2
    have k21 := mx3
    have k22 := mx4
    have k23 := mx5
    have hn24 := below_new w11 (.cells #[.slice Ay 0 cy, .int .i64 0, .bool false, .int .i64 0, .bool false, .int .i64 0] 24)
    replace ot := ot.below hn24
    replace ox := ox.below hn24
    replace oy := oy.below hn24
    replace rt := rowKeep rt hn24
    clear mt0 mt1 mt2 mt3 mt4 mt5
    obtain ⟨mt0, mt1, mt2, mt3, mt4, mt5⟩ := cells6 rt
    replace rx := rowKeep rx hn24
    clear mx0 mx1 mx2 mx3 mx4 mx5
    obtain ⟨mx0, mx1, mx2, mx3, mx4, mx5⟩ := cells6 rx
    replace hB := below_later hB hn24 (Nat.le_refl _)
    clear hn24
    have ry : (w11.alloc (.cells #[.slice Ay 0 cy, .int .i64 0, .bool false, .int .i64 0, .bool false, .int .i64 0] 24)).heap[w11.heap.size]? = some (.cells #[.slice Ay 0 cy, .int .i64 0, .bool false, .int .i64 0, .bool false, .int .i64 0] 24 (0, 0)) := heap_alloc_new _ _
    obtain ⟨my0, my1, my2, my3, my4, my5⟩ := cells6 ry
    have s24 : w11.heap.size < (w11.alloc (.cells #[.slice Ay 0 cy, .int .i64 0, .bool false, .int .i64 0, .bool false, .int .i64 0] 24)).heap.size := Nat.lt_of_lt_of_eq (Nat.lt_succ_self _) (World.size_alloc _ _).symm
    go_wp2_with fail
    clear k12 k13 k14 k15 k16 k17 k18 k19 k20 k21 k22 k23
    generalize (w11.alloc (.cells #[.slice Ay 0 cy, .int .i64 0, .bool false, .int .i64 0, .bool false, .int .i64 0] 24)) = u24 at *
    refine (sameAnswers_t _ _ _ _ _ _ _ _ _ _ _ _ _ _ _ ox.sees oy.sees (by omega) (by omega)).mono ?_
    rintro e w25 ⟨rfl, b25⟩
    have s25 := b25.size
    replace ot := ot.below b25
    replace ox := ox.below b25
    replace oy := oy.below b25
    replace rt := rowKeep rt b25
    clear mt0 mt1 mt2 mt3 mt4 mt5
    obtain ⟨mt0, mt1, mt2, mt3, mt4, mt5⟩ := cells6 rt
    replace rx := rowKeep rx b25
    clear mx0 mx1 mx2 mx3 mx4 mx5
    obtain ⟨mx0, mx1, mx2, mx3, mx4, mx5⟩ := cells6 rx
    replace ry := rowKeep ry b25
    clear my0 my1 my2 my3 my4 my5
    obtain ⟨my0, my1, my2, my3, my4, my5⟩ := cells6 ry
    replace hB := below_later hB b25 (Nat.le_refl _)
    clear b25
    go_wp2_with fail
    have q := specAnswersValid_any At d.length ct _ d ps pp tk tp pd w25 ot.sees (by omega)
    rw [HV.out] at q
    refine q.mono ?_
    clear q
    rintro e w26 ⟨rfl, b26⟩
    have s26 := b26.size
    replace ot := ot.below b26
    replace ox := ox.below b26
    replace oy := oy.below b26
    replace rt := rowKeep rt b26
    clear mt0 mt1 mt2 mt3 mt4 mt5
    obtain ⟨mt0, mt1, mt2, mt3, mt4, mt5⟩ := cells6 rt
    replace rx := rowKeep rx b26
    clear mx0 mx1 mx2 mx3 mx4 mx5
    obtain ⟨mx0, mx1, mx2, mx3, mx4, mx5⟩ := cells6 rx
    replace ry := rowKeep ry b26
    clear my0 my1 my2 my3 my4 my5
    obtain ⟨my0, my1, my2, my3, my4, my5⟩ := cells6 ry
    replace hB := below_later hB b26 (Nat.le_refl _)
    clear b26
    go_wp2_with fail
    refine (alive_any _).mono ?_
    rintro e w27 ⟨rfl, b27⟩
    have s27 := b27.size
    replace ot := ot.below b27
    replace ox := ox.below b27
    replace oy := oy.below b27
    replace rt := rowKeep rt b27
    clear mt0 mt1 mt2 mt3 mt4 mt5
    obtain ⟨mt0, mt1, mt2, mt3, mt4, mt5⟩ := cells6 rt
    replace rx := rowKeep rx b27
    clear mx0 mx1 mx2 mx3 mx4 mx5
    obtain ⟨mx0, mx1, mx2, mx3, mx4, mx5⟩ := cells6 rx
    replace ry := rowKeep ry b27
    clear my0 my1 my2 my3 my4 my5
    obtain ⟨my0, my1, my2, my3, my4, my5⟩ := cells6 ry
    replace hB := below_later hB b27 (Nat.le_refl _)
    clear b27
    go_wp2_with fail
    go_ret
    exact ⟨rfl, hB⟩
  · have HV := Lib.hid hv
    obtain ⟨⟨v1, v2⟩, ⟨v3, v4⟩, ⟨v5, v6⟩⟩ := aval_bd _ _ _ _ _ _ hv
    have hh := ((aval_iff _).1 hv).1
    have t0 := hh.t0
    have t1 := hh.t1
    change 0 ≤ tk at t0
    change tk < (d.length : Int) at t1
    clear hh
    obtain ⟨xtk, xtp, xpd, top, h1, h2, h3, h4⟩ := take_step _ _ _ _ _ _ hv
    have H1 := Lib.hid h1
    have H2 := Lib.hid h2
    have H3 := Lib.hid h3
    have H4 := Lib.hid h4
    clear hv h1 h2 h3 h4
    go_wp2_with fail
    generalize (w1.alloc (.cells #[.slice At d.length ct, .int .i64 ps, .bool pp, .int .i64 tk, .bool tp, .int .i64 pd] 24)) = u2 at *
    have q := implTakeAnswer_any At d.length ct _ d ps pp tk tp pd u2 ot.sees (by omega)
    refine q.mono ?_
    clear q
    rintro e w3 ⟨Ax, cx, rfl, ox, b3⟩
    simp only [H1.out, H2.out, H3.out, takeV, ansW, ansR]
    simp only [H1.out] at ox
    have s3 := b3.size
    replace ot := ot.below b3
    replace rt := rowKeep rt b3
    clear mt0 mt1 mt2 mt3 mt4 mt5
    obtain ⟨mt0, mt1, mt2, mt3, mt4, mt5⟩ := cells6 rt
    replace hB := below_later hB b3 (Nat.le_refl _)
    clear b3
    have k4 := mt0
    have k5 := mt1
    have k6 := mt2
    have k7 := mt3
    have k8 := mt4
    have k9 := mt5
    have hn10 := below_new w3 (.cells #[.slice Ax d.length cx, .int .i64 ps, .bool pp, .int .i64 xtk, .bool xtp, .int .i64 xpd] 24)
    replace ot := ot.below hn10
    replace ox := ox.below hn10
    replace rt := rowKeep rt hn10
    clear mt0 mt1 mt2 mt3 mt4 mt5
    obtain ⟨mt0, mt1, mt2, mt3, mt4, mt5⟩ := cells6 rt
    replace hB := below_later hB hn10 (Nat.le_refl _)
    clear hn10
    have rx : (w3.alloc (.cells #[.slice Ax d.length cx, .int .i64 ps, .bool pp, .int .i64 xtk, .bool xtp, .int .i64 xpd] 24)).heap[w3.heap.size]? = some (.cells #[.slice Ax d.length cx, .int .i64 ps, .bool pp, .int .i64 xtk, .bool xtp, .int .i64 xpd] 24 (0, 0)) := heap_alloc_new _ _
    obtain ⟨mx0, mx1, mx2, mx3, mx4, mx5⟩ := cells6 rx
    have s10 : w3.heap.size < (w3.alloc (.cells #[.slice Ax d.length cx, .int .i64 ps, .bool pp, .int .i64 xtk, .bool xtp, .int .i64 xpd] 24)).heap.size := Nat.lt_of_lt_of_eq (Nat.lt_succ_self _) (World.size_alloc _ _).symm
    go_wp2_with fail
    clear k4 k5 k6 k7 k8 k9
    generalize (w3.alloc (.cells #[.slice Ax d.length cx, .int .i64 ps, .bool pp, .int .i64 xtk, .bool xtp, .int .i64 xpd] 24)) = u10 at *
    have q := specTakeAnswer_any At d.length ct _ d ps pp tk tp pd u10 ot.sees (by omega)
    refine q.mono ?_
    clear q
    rintro e w11 ⟨Ay, cy, rfl, oy, b11⟩
    simp only [H1.out, H2.out, H3.out, takeV, ansW, ansR]
    simp only [H1.out] at oy
    have s11 := b11.size
    replace ot := ot.below b11
    replace ox := ox.below b11
    replace rt := rowKeep rt b11
    clear mt0 mt1 mt2 mt3 mt4 mt5
    obtain ⟨mt0, mt1, mt2, mt3, mt4, mt5⟩ := cells6 rt
    replace rx := rowKeep rx b11
    clear mx0 mx1 mx2 mx3 mx4 mx5
    obtain ⟨mx0, mx1, mx2, mx3, mx4, mx5⟩ := cells6 rx
    replace hB := below_later hB b11 (Nat.le_refl _)
    clear b11
    have k12 := mt0
    have k13 := mt1
    have k14 := mt2
    have k15 := mt3
    have k16 := mt4
    have k17 := mt5
    have k18 := mx0
    have k19 := mx1
    have k20 := mx2
    have k21 := mx3
    have k22 := mx4
    have k23 := mx5
    have hn24 := below_new w11 (.cells #[.slice Ay d.length cy, .int .i64 ps, .bool pp, .int .i64 xtk, .bool xtp, .int .i64 xpd] 24)
    replace ot := ot.below hn24
    replace ox := ox.below hn24
    replace oy := oy.below hn24
    replace rt := rowKeep rt hn24
    clear mt0 mt1 mt2 mt3 mt4 mt5
    obtain ⟨mt0, mt1, mt2, mt3, mt4, mt5⟩ := cells6 rt
    replace rx := rowKeep rx hn24
    clear mx0 mx1 mx2 mx3 mx4 mx5
    obtain ⟨mx0, mx1, mx2, mx3, mx4, mx5⟩ := cells6 rx
    replace hB := below_later hB hn24 (Nat.le_refl _)
    clear hn24
    have ry : (w11.alloc (.cells #[.slice Ay d.length cy, .int .i64 ps, .bool pp, .int .i64 xtk, .bool xtp, .int .i64 xpd] 24)).heap[w11.heap.size]? = some (.cells #[.slice Ay d.length cy, .int .i64 ps, .bool pp, .int .i64 xtk, .bool xtp, .int .i64 xpd] 24 (0, 0)) := heap_alloc_new _ _
    obtain ⟨my0, my1, my2, my3, my4, my5⟩ := cells6 ry
    have s24 : w11.heap.size < (w11.alloc (.cells #[.slice Ay d.length cy, .int .i64 ps, .bool pp, .int .i64 xtk, .bool xtp, .int .i64 xpd] 24)).heap.size := Nat.lt_of_lt_of_eq (Nat.lt_succ_self _) (World.size_alloc _ _).symm
    go_wp2_with fail
    clear k12 k13 k14 k15 k16 k17 k18 k19 k20 k21 k22 k23
    generalize (w11.alloc (.cells #[.slice Ay d.length cy, .int .i64 ps, .bool pp, .int .i64 xtk, .bool xtp, .int .i64 xpd] 24)) = u24 at *
    refine (sameAnswers_t _ _ _ _ _ _ _ _ _ _ _ _ _ _ _ ox.sees oy.sees (by omega) (by omega)).mono ?_
    rintro e w25 ⟨rfl, b25⟩
    have s25 := b25.size
    replace ot := ot.below b25
    replace ox := ox.below b25
    replace oy := oy.below b25
    replace rt := rowKeep rt b25
    clear mt0 mt1 mt2 mt3 mt4 mt5
    obtain ⟨mt0, mt1, mt2, mt3, mt4, mt5⟩ := cells6 rt
    replace rx := rowKeep rx b25
    clear mx0 mx1 mx2 mx3 mx4 mx5
    obtain ⟨mx0, mx1, mx2, mx3, mx4, mx5⟩ := cells6 rx
    replace ry := rowKeep ry b25
    clear my0 my1 my2 my3 my4 my5
    obtain ⟨my0, my1, my2, my3, my4, my5⟩ := cells6 ry
    replace hB := below_later hB b25 (Nat.le_refl _)
    clear b25
    go_wp2_with fail
    clear oy
    clear ry my0 my1 my2 my3 my4 my5
    clear ox
    clear rx mx0 mx1 mx2 mx3 mx4 mx5
    go_wp2_with fail
    have q := specAnswersValid_any At d.length ct _ d ps pp tk tp pd w25 ot.sees (by omega)
    rw [HV.out] at q
    refine q.mono ?_
    clear q
    rintro e w26 ⟨rfl, b26⟩
    have s26 := b26.size
    replace ot := ot.below b26
    replace rt := rowKeep rt b26
    clear mt0 mt1 mt2 mt3 mt4 mt5
    obtain ⟨mt0, mt1, mt2, mt3, mt4, mt5⟩ := cells6 rt
    replace hB := below_later hB b26 (Nat.le_refl _)
    clear b26
    by_cases hf : pd = (d.length : Int)
    · have hb0 : (pd == (d.length : Int)) = true := beq_iff_eq.2 hf
      clear hf
      go_wp2_with fail
      refine (alive_any _).mono ?_
      rintro e w27 ⟨rfl, b27⟩
      have s27 := b27.size
      replace ot := ot.below b27
      replace rt := rowKeep rt b27
      clear mt0 mt1 mt2 mt3 mt4 mt5
      obtain ⟨mt0, mt1, mt2, mt3, mt4, mt5⟩ := cells6 rt
      replace hB := below_later hB b27 (Nat.le_refl _)
      clear b27
      go_wp2_with fail
      go_ret
      exact ⟨rfl, hB⟩
    · have hb0 : (pd == (d.length : Int)) = false := beq_eq_false_iff_ne.2 hf
      have hpl : pd < (d.length : Int) := by omega
      clear hf
      have k27 := mt0
      have k28 := mt1
      have k29 := mt2
      have k30 := mt3
      have k31 := mt4
      have k32 := mt5
      have hn33 := below_new w26 (.cells #[.slice At d.length ct, .int .i64 ps, .bool pp, .int .i64 tk, .bool tp, .int .i64 pd] 24)
      replace ot := ot.below hn33
      replace rt := rowKeep rt hn33
      clear mt0 mt1 mt2 mt3 mt4 mt5
      obtain ⟨mt0, mt1, mt2, mt3, mt4, mt5⟩ := cells6 rt
      replace hB := below_later hB hn33 (Nat.le_refl _)
      clear hn33
      have rb : (w26.alloc (.cells #[.slice At d.length ct, .int .i64 ps, .bool pp, .int .i64 tk, .bool tp, .int .i64 pd] 24)).heap[w26.heap.size]? = some (.cells #[.slice At d.length ct, .int .i64 ps, .bool pp, .int .i64 tk, .bool tp, .int .i64 pd] 24 (0, 0)) := heap_alloc_new _ _
      obtain ⟨mb0, mb1, mb2, mb3, mb4, mb5⟩ := cells6 rb
      have s33 : w26.heap.size < (w26.alloc (.cells #[.slice At d.length ct, .int .i64 ps, .bool pp, .int .i64 tk, .bool tp, .int .i64 pd] 24)).heap.size := Nat.lt_of_lt_of_eq (Nat.lt_succ_self _) (World.size_alloc _ _).symm
      go_upto_region 12 with fail
      clear k27 k28 k29 k30 k31 k32
      generalize (w26.alloc (.cells #[.slice At d.length ct, .int .i64 ps, .bool pp, .int .i64 tk, .bool tp, .int .i64 pd] 24)) = u33 at *
      obtain ⟨z1, z2⟩ := step_zero (d.length : Int) ps pp v3 v4
      obtain ⟨z3, z4⟩ := step_zero (d.length : Int) tk tp t0 t1
      have hst : AtBoxA w u33 (w26.heap.size) At ct d ps pp tk tp pd _ _ := ⟨rb, ot, by omega, by omega, hB, by omega, by omega⟩
      have hrt := rt
      have H0 := Lib.hid (show aval ⟨d, ps, pp, tk, tp, pd⟩ = true ∧ d.length = d.length ∧ ps = stepP d.length ps 0 ∧ pp = stepF d.length ps pp 0 ∧ tk = stepP d.length tk 0 ∧ tp = stepF d.length tk tp 0 from ⟨HV.out, rfl, z1.symm, z2.symm, z3.symm, z4.symm⟩)
      clear z1 z2 z3 z4
      clear rt rb ot hB mt0 mt1 mt2 mt3 mt4 mt5 mb0 mb1 mb2 mb3 mb4 mb5
      have hgt : w1.heap.size ≠ w26.heap.size ∧ w1.heap.size < u33.heap.size := ⟨by omega, by omega⟩
      go_loopw [11] (fun i wr => ∃ (j : Nat), j ≤ d.length ∧ i = .int .i64 j ∧ (∃ A c d1 ps1 pp1 tk1 tp1 lo hi, AtBoxA w wr (w26.heap.size) A c d1 ps1 pp1 tk1 tp1 pd lo hi ∧ Hid (aval ⟨d1, ps1, pp1, tk1, tp1, pd⟩ = true ∧ d1.length = d.length ∧ ps1 = stepP d.length ps j ∧ pp1 = stepF d.length ps pp j ∧ tk1 = stepP d.length tk j ∧ tp1 = stepF d.length tk tp j)) ∧ wr.heap[w1.heap.size]? = some (.cells #[.slice At d.length ct, .int .i64 ps, .bool pp, .int .i64 tk, .bool tp, .int .i64 pd] 24 (0, 0))) (fun i _ => d.length - (intOf i).toNat)
      case atStart => exact ⟨0, Nat.zero_le _, rfl, ⟨At, ct, d, ps, pp, tk, tp, _, _, hst, H0⟩, hrt⟩
      case round =>
        clear hst H0 hrt
        obtain ⟨j, hj, rfl, ⟨A1, c1, d1, ps1, pp1, tk1, tp1, lo1, hi1, sb, hvj⟩, rt⟩ := hrel
        have rb := sb.row
        have ob := sb.own
        have hB := sb.bel
        have hoff := sb.off
        have hhi := sb.hi_
        have hin := sb.in_
        have hcb := ob.cap
        clear sb
        by_cases hlt : j < d.length
        · obtain ⟨mt0, mt1, mt2, mt3, mt4, mt5⟩ := cells6 rt
          obtain ⟨mb0, mb1, mb2, mb3, mb4, mb5⟩ := cells6 rb
          obtain ⟨hv1, hd1, e1, e2, e3, e4⟩ := hvj.out
          have hd1a : d1.length ≤ 16 := by omega
          obtain ⟨d2, ps2, pp2, tk2, tp2, l1, ⟨h1, h2⟩, ⟨h3, h5⟩, h6, h7⟩ := lap_next d.length d1 ps pp tk tp pd j (j : Int) ps1 pp1 tk1 tp1 hv1 hd1 hpl hlt v3 v4 t0 t1 e1 e2 e3 e4
          have hd2 : d2.length ≤ 16 := by omega
          obtain ⟨top2, h8⟩ : ∃ top2, atop ⟨d2, ps2, pp2, tk1, tp1, pd + 1⟩ = top2 := ⟨_, rfl⟩
          have K1 := Lib.hid h1
          have K2 := Lib.hid h2
          have K3 := Lib.hid h3
          have K5 := Lib.hid h5
          have K6 := Lib.hid h6
          have K7 := Lib.hid h7
          have K8 := Lib.hid h8
          have KL := Lib.hid l1
          clear l1 h1 h2 h3 h5 h6 h7 h8 hv1 hd1 e1 e2 e3 e4
          go_wp2_with fail
          have q := implPostAnswer_any A1 d1.length c1 _ d1 ps1 pp1 tk1 tp1 pd (j : Int) wr ob.sees hhi
          refine q.mono ?_
          clear q
          rintro e w34 ⟨Ap, cp, rfl, op, b34⟩
          simp only [K1.out, K2.out, postV, ansW, ansR]
          simp only [K1.out] at op
          have s34 := b34.size
          replace ob := ob.below b34
          replace rb := rowKeep rb b34
          clear mb0 mb1 mb2 mb3 mb4 mb5
          obtain ⟨mb0, mb1, mb2, mb3, mb4, mb5⟩ := cells6 rb
          replace rt := rowKeep rt b34
          clear mt0 mt1 mt2 mt3 mt4 mt5
          obtain ⟨mt0, mt1, mt2, mt3, mt4, mt5⟩ := cells6 rt
          replace hB := below_later hB b34 (Nat.le_refl _)
          clear b34
          have k35 := mb0
          have k36 := mb1
          have k37 := mb2
          have k38 := mb3
          have k39 := mb4
          have k40 := mb5
          have k41 := mt0
          have k42 := mt1
          have k43 := mt2
          have k44 := mt3
          have k45 := mt4
          have k46 := mt5
          have hn47 := below_new w34 (.cells #[.slice Ap d2.length cp, .int .i64 ps2, .bool pp2, .int .i64 tk1, .bool tp1, .int .i64 (pd + 1)] 24)
          replace ob := ob.below hn47
          replace op := op.below hn47
          replace rb := rowKeep rb hn47
          clear mb0 mb1 mb2 mb3 mb4 mb5
          obtain ⟨mb0, mb1, mb2, mb3, mb4, mb5⟩ := cells6 rb
          replace rt := rowKeep rt hn47
          clear mt0 mt1 mt2 mt3 mt4 mt5
          obtain ⟨mt0, mt1, mt2, mt3, mt4, mt5⟩ := cells6 rt
          replace hB := below_later hB hn47 (Nat.le_refl _)
          clear hn47
          have rp : (w34.alloc (.cells #[.slice Ap d2.length cp, .int .i64 ps2, .bool pp2, .int .i64 tk1, .bool tp1, .int .i64 (pd + 1)] 24)).heap[w34.heap.size]? = some (.cells #[.slice Ap d2.length cp, .int .i64 ps2, .bool pp2, .int .i64 tk1, .bool tp1, .int .i64 (pd + 1)] 24 (0, 0)) := heap_alloc_new _ _
          obtain ⟨mp0, mp1, mp2, mp3, mp4, mp5⟩ := cells6 rp
          have s47 : w34.heap.size < (w34.alloc (.cells #[.slice Ap d2.length cp, .int .i64 ps2, .bool pp2, .int .i64 tk1, .bool tp1, .int .i64 (pd + 1)] 24)).heap.size := Nat.lt_of_lt_of_eq (Nat.lt_succ_self _) (World.size_alloc _ _).symm
          go_wp2_with fail
          clear k35 k36 k37 k38 k39 k40 k41 k42 k43 k44 k45 k46
          generalize (w34.alloc (.cells #[.slice Ap d2.length cp, .int .i64 ps2, .bool pp2, .int .i64 tk1, .bool tp1, .int .i64 (pd + 1)] 24)) = u47 at *
          have q := implTakeAnswer_any Ap d2.length cp _ d2 ps2 pp2 tk1 tp1 (pd + 1) u47 op.sees (by omega)
          refine q.mono ?_
          clear q
          rintro e w48 ⟨Aq, cq, rfl, oq, b48⟩
          simp only [K3.out, K5.out, K8.out, takeV, ansW, ansR]
          simp only [K3.out] at oq
          have s48 := b48.size
          replace ob := ob.below b48
          replace op := op.below b48
          replace rb := rowKeep rb b48
          clear mb0 mb1 mb2 mb3 mb4 mb5
          obtain ⟨mb0, mb1, mb2, mb3, mb4, mb5⟩ := cells6 rb
          replace rt := rowKeep rt b48
          clear mt0 mt1 mt2 mt3 mt4 mt5
          obtain ⟨mt0, mt1, mt2, mt3, mt4, mt5⟩ := cells6 rt
          replace rp := rowKeep rp b48
          clear mp0 mp1 mp2 mp3 mp4 mp5
          obtain ⟨mp0, mp1, mp2, mp3, mp4, mp5⟩ := cells6 rp
          replace hB := below_later hB b48 (Nat.le_refl _)
          clear b48
          have k49 := mb0
          have k50 := mb1
          have k51 := mb2
          have k52 := mb3
          have k53 := mb4
          have k54 := mb5
          have k55 := mt0
          have k56 := mt1
          have k57 := mt2
          have k58 := mt3
          have k59 := mt4
          have k60 := mt5
          have k61 := mp0
          have k62 := mp1
          have k63 := mp2
          have k64 := mp3
          have k65 := mp4
          have k66 := mp5
          have hn67 := below_new w48 (.cells #[.slice Aq d2.length cq, .int .i64 ps2, .bool pp2, .int .i64 tk2, .bool tp2, .int .i64 pd] 24)
          replace ob := ob.below hn67
          replace op := op.below hn67
          replace oq := oq.below hn67
          replace rb := rowKeep rb hn67
          clear mb0 mb1 mb2 mb3 mb4 mb5
          obtain ⟨mb0, mb1, mb2, mb3, mb4, mb5⟩ := cells6 rb
          replace rt := rowKeep rt hn67
          clear mt0 mt1 mt2 mt3 mt4 mt5
          obtain ⟨mt0, mt1, mt2, mt3, mt4, mt5⟩ := cells6 rt
          replace rp := rowKeep rp hn67
          clear mp0 mp1 mp2 mp3 mp4 mp5
          obtain ⟨mp0, mp1, mp2, mp3, mp4, mp5⟩ := cells6 rp
          replace hB := below_later hB hn67 (Nat.le_refl _)
          clear hn67
          have rq : (w48.alloc (.cells #[.slice Aq d2.length cq, .int .i64 ps2, .bool pp2, .int .i64 tk2, .bool tp2, .int .i64 pd] 24)).heap[w48.heap.size]? = some (.cells #[.slice Aq d2.length cq, .int .i64 ps2, .bool pp2, .int .i64 tk2, .bool tp2, .int .i64 pd] 24 (0, 0)) := heap_alloc_new _ _
          obtain ⟨mq0, mq1, mq2, mq3, mq4, mq5⟩ := cells6 rq
          have s67 : w48.heap.size < (w48.alloc (.cells #[.slice Aq d2.length cq, .int .i64 ps2, .bool pp2, .int .i64 tk2, .bool tp2, .int .i64 pd] 24)).heap.size := Nat.lt_of_lt_of_eq (Nat.lt_succ_self _) (World.size_alloc _ _).symm
          go_upto_region 18 with fail
          clear k49 k50 k51 k52 k53 k54 k55 k56 k57 k58 k59 k60 k61 k62 k63 k64 k65 k66
          generalize (w48.alloc (.cells #[.slice Aq d2.length cq, .int .i64 ps2, .bool pp2, .int .i64 tk2, .bool tp2, .int .i64 pd] 24)) = u67 at *
          have HS := Lib.hid (AtBoxA.put (d2 := d2) rb oq (by omega) (by omega) hB hin.1 : AtBoxA w (st6 u67 (w26.heap.size) (.slice Aq d2.length cq) (.int .i64 ps2) (.bool pp2) (.int .i64 tk2) (.bool tp2) (.int .i64 pd)) (w26.heap.size) Aq cq d2 ps2 pp2 tk2 tp2 pd _ _)
          have HRT := Lib.hid (rowSet6 (g := w26.heap.size) rt (by omega) (.slice Aq d2.length cq) (.int .i64 ps2) (.bool pp2) (.int .i64 tk2) (.bool tp2) (.int .i64 pd))
          obtain ⟨z0, z1, z2, z3, z4, z5⟩ := frz6 rb
          have e1 : IntKind.i64.wrap ((j : Int) + 1) = (j : Int) + 1 := IntWalk.i64_in _ (by omega)
          clear rt rb rp rq ob op oq hB
          go_wp2_with fail
          go_roundw
          case rel => exact ⟨j + 1, by omega, by go_num, ⟨Aq, cq, _, _, _, _, _, _, _, HS.out, Lib.hid ⟨K6.out, KL.out, K7.out⟩⟩, HRT.out⟩
          case measure => simp [intOf]; omega
        · obtain rfl : j = d.length := by omega
          obtain ⟨hv1, hd1, e1, e2, e3, e4⟩ := hvj.out
          obtain ⟨z1, z2⟩ := step_end (d.length : Int) ps pp d.length rfl v3 v4
          obtain ⟨z3, z4⟩ := step_end (d.length : Int) tk tp d.length rfl t0 t1
          rw [z1] at e1
          rw [z2] at e2
          rw [z3] at e3
          rw [z4] at e4
          subst e1 e2 e3 e4
          clear hvj hv1 hd1 z1 z2 z3 z4
          have hb1 : ((!pp) != pp) = true := by cases pp <;> rfl
          have hb2 : ((!tp) != tp) = true := by cases tp <;> rfl
          obtain ⟨mt0, mt1, mt2, mt3, mt4, mt5⟩ := cells6 rt
          obtain ⟨mb0, mb1, mb2, mb3, mb4, mb5⟩ := cells6 rb
          go_wp2_with fail
          go_ret
          exact ⟨rfl, hB⟩
end Go.Proofs.Ythkiollagnjfaaa
