/-
  Walk: the law FnTakeAnswer returns true.
-/
import Derived.Deep.DeepCutAuto
import Derived.Deep.RegionHeld3
import Derived.IntWalk
import Derived.Test.YthkiollagnjfaaaN14
import Derived.Test.YthkiollagnjfaaaN15
import Derived.Test.YthkiollagnjfaaaN5
import Derived.Test.YthkiollagnjfaaaS3
import Derived.Test.YthkiollagnjfaaaA
namespace Go.Proofs.Ythkiollagnjfaaa
open Go.RowKit
set_option linter.unusedSimpArgs false
set_option linter.unusedVariables false
set_option maxHeartbeats 8000000 in
theorem law_FnTakeAnswer (w : World) (A : Option Addr) (n c : Nat) (bs : List Int) (h : Sees w w.heap.size 1 A n c (byts bs)) (hb : ∀ v ∈ bs, 0 ≤ v ∧ v ≤ 255) :
    Calls Try.prog 7 #[.slice A n c] w (RetPure w (.bool true)) := by
  have hc1 := h.cap
  have hc2 := h.big
  by_cases hn : 1048576 < n
  · go_enter Try.func7, Try.ntmps7
    go_wp2_with fail
    go_ret
    exact ⟨rfl, Below.refl _ _⟩
  have hB : Below w.heap.size w w := Below.refl _ _
  go_enter Try.func7, Try.ntmps7
  go_wp2_with fail
  refine (drawTakeAnswer_any _ _ _ _ _ _ h (Nat.le_refl _) hb).mono ?_
  rintro e w1 ⟨At, ct, d, ps, pp, tk, tp, pd, rfl, ⟨ot, hd17⟩, b1⟩
  have s1 := b1.size
  replace hB := below_later hB b1 (Nat.le_refl _)
  clear b1
  clear h hb
  have hct := ot.cap
  have hn2 := below_new w1 (.cells #[.slice At d.length ct, .int .i64 ps, .bool pp, .int .i64 tk, .bool tp, .int .i64 pd] 24)
  replace ot := ot.below hn2
  replace hB := below_later hB hn2 (Nat.le_refl _)
  clear hn2
  have rt : (w1.alloc (.cells #[.slice At d.length ct, .int .i64 ps, .bool pp, .int .i64 tk, .bool tp, .int .i64 pd] 24)).heap[w1.heap.size]? = some (.cells #[.slice At d.length ct, .int .i64 ps, .bool pp, .int .i64 tk, .bool tp, .int .i64 pd] 24 (0, 0)) := heap_alloc_new _ _
  obtain ⟨mt0, mt1, mt2, mt3, mt4, mt5⟩ := cells6 rt
  have s2 : w1.heap.size < (w1.alloc (.cells #[.slice At d.length ct, .int .i64 ps, .bool pp, .int .i64 tk, .bool tp, .int .i64 pd] 24)).heap.size := Nat.lt_of_lt_of_eq (Nat.lt_succ_self _) (World.size_alloc _ _).symm
  cases hv : aval ⟨d, ps, pp, tk, tp, pd⟩
  · have HV := Lib.hid hv
    have haz : az = ⟨[], 0, false, 0, false, 0⟩ := rfl
    obtain ⟨h1, h2, h3⟩ := atake_no _ hv
    rw [haz] at h1
    have H1 := Lib.hid h1
    have H2 := Lib.hid h2
    have H3 := Lib.hid h3
    clear h1 h2 h3 haz hv
    go_wp2_with fail
    generalize (w1.alloc (.cells #[.slice At d.length ct, .int .i64 ps, .bool pp, .int .i64 tk, .bool tp, .int .i64 pd] 24)) = u2 at *
    have q := implTakeAnswer_any At d.length ct _ d ps pp tk tp pd u2 ot.sees (by omega)
    refine q.mono ?_
    clear q
    rintro e w3 ⟨Ax, cx, rfl, ox, b3⟩
    simp only [H1.out, H2.out, H3.out, takeV, ansW, ansR, List.length_nil]
    simp only [H1.out, List.length_nil] at ox
    have s3 := b3.size
    replace ot := ot.below b3
    replace rt := rowKeep rt b3
    clear mt0 mt1 mt2 mt3 mt4 mt5
    obtain ⟨mt0, mt1, mt2, mt3, mt4, mt5⟩ := cells6 rt
    replace hB := below_later hB b3 (Nat.le_refl _)
    clear b3
    have k4 := mt0
    have k5 := mt1
    have k6 := mt2
    have k7 := mt3
    have k8 := mt4
    have k9 := mt5
    have hn10 := below_new w3 (.cells #[.slice Ax 0 cx, .int .i64 0, .bool false, .int .i64 0, .bool false, .int .i64 0] 24)
    replace ot := ot.below hn10
    replace ox := ox.below hn10
    replace rt := rowKeep rt hn10
    clear mt0 mt1 mt2 mt3 mt4 mt5
    obtain ⟨mt0, mt1, mt2, mt3, mt4, mt5⟩ := cells6 rt
    replace hB := below_later hB hn10 (Nat.le_refl _)
    clear hn10
    have rx : (w3.alloc (.cells #[.slice Ax 0 cx, .int .i64 0, .bool false, .int .i64 0, .bool false, .int .i64 0] 24)).heap[w3.heap.size]? = some (.cells #[.slice Ax 0 cx, .int .i64 0, .bool false, .int .i64 0, .bool false, .int .i64 0] 24 (0, 0)) := heap_alloc_new _ _
    obtain ⟨mx0, mx1, mx2, mx3, mx4, mx5⟩ := cells6 rx
    have s10 : w3.heap.size < (w3.alloc (.cells #[.slice Ax 0 cx, .int .i64 0, .bool false, .int .i64 0, .bool false, .int .i64 0] 24)).heap.size := Nat.lt_of_lt_of_eq (Nat.lt_succ_self _) (World.size_alloc _ _).symm
    go_wp2_with fail
    clear k4 k5 k6 k7 k8 k9
    generalize (w3.alloc (.cells #[.slice Ax 0 cx, .int .i64 0, .bool false, .int .i64 0, .bool false, .int .i64 0] 24)) = u10 at *
    have q := specTakeAnswer_any At d.length ct _ d ps pp tk tp pd u10 ot.sees (by omega)
    refine q.mono ?_
    clear q
    rintro e w11 ⟨Ay, cy, rfl, oy, b11⟩
    simp only [H1.out, H2.out, H3.out, takeV, ansW, ansR, List.length_nil]
    simp only [H1.out, List.length_nil] at oy
    have s11 := b11.size
    replace ot := ot.below b11
    replace ox := ox.below b11
    replace rt := rowKeep rt b11
    clear mt0 mt1 mt2 mt3 mt4 mt5
    obtain ⟨mt0, mt1, mt2, mt3, mt4, mt5⟩ := cells6 rt
    replace rx := rowKeep rx b11
    clear mx0 mx1 mx2 mx3 mx4 mx5
    obtain ⟨mx0, mx1, mx2, mx3, mx4, mx5⟩ := cells6 rx
    replace hB := below_later hB b11 (Nat.le_refl _)
    clear b11
    have k12 := mt0
    have k13 := mt1
    have k14 := mt2
    have k15 := mt3
    have k16 := mt4
    have k17 := mt5
    have k18 := mx0
    have k19 := mx1
    have k20 := mx2
    have k21 := mx3
    have k22 := mx4
    have k23 := mx5
    have hn24 := below_new w11 (.cells #[.slice Ay 0 cy, .int .i64 0, .bool false, .int .i64 0, .bool false, .int .i64 0] 24)
    replace ot := ot.below hn24
    replace ox := ox.below hn24
    replace oy := oy.below hn24
    replace rt := rowKeep rt hn24
    clear mt0 mt1 mt2 mt3 mt4 mt5
    obtain ⟨mt0, mt1, mt2, mt3, mt4, mt5⟩ := cells6 rt
    replace rx := rowKeep rx hn24
    clear mx0 mx1 mx2 mx3 mx4 mx5
    obtain ⟨mx0, mx1, mx2, mx3, mx4, mx5⟩ := cells6 rx
    replace hB := below_later hB hn24 (Nat.le_refl _)
    clear hn24
    have ry : (w11.alloc (.cells #[.slice Ay 0 cy, .int .i64 0, .bool false, .int .i64 0, .bool false, .int .i64 0] 24)).heap[w11.heap.size]? = some (.cells #[.slice Ay 0 cy, .int .i64 0, .bool false, .int .i64 0, .bool false, .int .i64 0] 24 (0, 0)) := heap_alloc_new _ _
    obtain ⟨my0, my1, my2, my3, my4, my5⟩ := cells6 ry
    have s24 : w11.heap.size < (w11.alloc (.cells #[.slice Ay 0 cy, .int .i64 0, .bool false, .int .i64 0, .bool false, .int .i64 0] 24)).heap.size := Nat.lt_of_lt_of_eq (Nat.lt_succ_self _) (World.size_alloc _ _).symm
    go_wp2_with fail
    clear k12 k13 k14 k15 k16 k17 k18 k19 k20 k21 k22 k23
    generalize (w11.alloc (.cells #[.slice Ay 0 cy, .int .i64 0, .bool false, .int .i64 0, .bool false, .int .i64 0] 24)) = u24 at *
    refine (sameAnswers_t _ _ _ _ _ _ _ _ _ _ _ _ _ _ _ ox.sees oy.sees (by omega) (by omega)).mono ?_
    rintro e w25 ⟨rfl, b25⟩
    have s25 := b25.size
    replace ot := ot.below b25
    replace ox := ox.below b25
    replace oy := oy.below b25
    replace rt := rowKeep rt b25
    clear mt0 mt1 mt2 mt3 mt4 mt5
    obtain ⟨mt0, mt1, mt2, mt3, mt4, mt5⟩ := cells6 rt
    replace rx := rowKeep rx b25
    clear mx0 mx1 mx2 mx3 mx4 mx5
    obtain ⟨mx0, mx1, mx2, mx3, mx4, mx5⟩ := cells6 rx
    replace ry := rowKeep ry b25
    clear my0 my1 my2 my3 my4 my5
    obtain ⟨my0, my1, my2, my3, my4, my5⟩ := cells6 ry
    replace hB := below_later hB b25 (Nat.le_refl _)
    clear b25
    go_wp2_with fail
    have q := specAnswersValid_any At d.length ct _ d ps pp tk tp pd w25 ot.sees (by omega)
    rw [HV.out] at q
    refine q.mono ?_
    clear q
    rintro e w26 ⟨rfl, b26⟩
    have s26 := b26.size
    replace ot := ot.below b26
    replace ox := ox.below b26
    replace oy := oy.below b26
    replace rt := rowKeep rt b26
    clear mt0 mt1 mt2 mt3 mt4 mt5
    obtain ⟨mt0, mt1, mt2, mt3, mt4, mt5⟩ := cells6 rt
    replace rx := rowKeep rx b26
    clear mx0 mx1 mx2 mx3 mx4 mx5
    obtain ⟨mx0, mx1, mx2, mx3, mx4, mx5⟩ := cells6 rx
    replace ry := rowKeep ry b26
    clear my0 my1 my2 my3 my4 my5
    obtain ⟨my0, my1, my2, my3, my4, my5⟩ := cells6 ry
    replace hB := below_later hB b26 (Nat.le_refl _)
    clear b26
    go_wp2_with fail
    refine (alive_any _).mono ?_
    rintro e w27 ⟨rfl, b27⟩
    have s27 := b27.size
    replace ot := ot.below b27
    replace ox := ox.below b27
    replace oy := oy.below b27
    replace rt := rowKeep rt b27
    clear mt0 mt1 mt2 mt3 mt4 mt5
    obtain ⟨mt0, mt1, mt2, mt3, mt4, mt5⟩ := cells6 rt
    replace rx := rowKeep rx b27
    clear mx0 mx1 mx2 mx3 mx4 mx5
    obtain ⟨mx0, mx1, mx2, mx3, mx4, mx5⟩ := cells6 rx
    replace ry := rowKeep ry b27
    clear my0 my1 my2 my3 my4 my5
    obtain ⟨my0, my1, my2, my3, my4, my5⟩ := cells6 ry
    replace hB := below_later hB b27 (Nat.le_refl _)
    clear b27
    go_wp2_with fail
    go_ret
    exact ⟨rfl, hB⟩
  · have HV := Lib.hid hv
    obtain ⟨⟨v1, v2⟩, ⟨v3, v4⟩, ⟨v5, v6⟩⟩ := aval_bd _ _ _ _ _ _ hv
    obtain ⟨m, hm⟩ : ∃ m : Nat, pd = (m : Int) := ⟨pd.toNat, by omega⟩
    subst hm
    have hx : ∃ xtk xtp xpd top, atake ⟨d, ps, pp, tk, tp, (m : Int)⟩ = ⟨d, ps, pp, xtk, xtp, xpd⟩ ∧ atook ⟨d, ps, pp, tk, tp, (m : Int)⟩ = decide (0 < (m : Int)) ∧ atop ⟨d, ps, pp, tk, tp, (m : Int)⟩ = top ∧ aval ⟨d, ps, pp, xtk, xtp, xpd⟩ = true := take_step _ _ _ _ _ _ hv
    obtain ⟨xtk, xtp, xpd, top, h1, h2, h3, h4⟩ := hx
    have H1 := Lib.hid h1
    have H2 := Lib.hid h2
    have H3 := Lib.hid h3
    have H4 := Lib.hid h4
    clear hv h1 h2 h3 h4
    go_wp2_with fail
    generalize (w1.alloc (.cells #[.slice At d.length ct, .int .i64 ps, .bool pp, .int .i64 tk, .bool tp, .int .i64 (m : Int)] 24)) = u2 at *
    have q := implTakeAnswer_any At d.length ct _ d ps pp tk tp (m : Int) u2 ot.sees (by omega)
    refine q.mono ?_
    clear q
    rintro e w3 ⟨Ax, cx, rfl, ox, b3⟩
    simp only [H1.out, H2.out, H3.out, takeV, ansW, ansR]
    simp only [H1.out] at ox
    have s3 := b3.size
    replace ot := ot.below b3
    replace rt := rowKeep rt b3
    clear mt0 mt1 mt2 mt3 mt4 mt5
    obtain ⟨mt0, mt1, mt2, mt3, mt4, mt5⟩ := cells6 rt
    replace hB := below_later hB b3 (Nat.le_refl _)
    clear b3
    have k4 := mt0
    have k5 := mt1
    have k6 := mt2
    have k7 := mt3
    have k8 := mt4
    have k9 := mt5
    have hn10 := below_new w3 (.cells #[.slice Ax d.length cx, .int .i64 ps, .bool pp, .int .i64 xtk, .bool xtp, .int .i64 xpd] 24)
    replace ot := ot.below hn10
    replace ox := ox.below hn10
    replace rt := rowKeep rt hn10
    clear mt0 mt1 mt2 mt3 mt4 mt5
    obtain ⟨mt0, mt1, mt2, mt3, mt4, mt5⟩ := cells6 rt
    replace hB := below_later hB hn10 (Nat.le_refl _)
    clear hn10
    have rx : (w3.alloc (.cells #[.slice Ax d.length cx, .int .i64 ps, .bool pp, .int .i64 xtk, .bool xtp, .int .i64 xpd] 24)).heap[w3.heap.size]? = some (.cells #[.slice Ax d.length cx, .int .i64 ps, .bool pp, .int .i64 xtk, .bool xtp, .int .i64 xpd] 24 (0, 0)) := heap_alloc_new _ _
    obtain ⟨mx0, mx1, mx2, mx3, mx4, mx5⟩ := cells6 rx
    have s10 : w3.heap.size < (w3.alloc (.cells #[.slice Ax d.length cx, .int .i64 ps, .bool pp, .int .i64 xtk, .bool xtp, .int .i64 xpd] 24)).heap.size := Nat.lt_of_lt_of_eq (Nat.lt_succ_self _) (World.size_alloc _ _).symm
    go_wp2_with fail
    clear k4 k5 k6 k7 k8 k9
    generalize (w3.alloc (.cells #[.slice Ax d.length cx, .int .i64 ps, .bool pp, .int .i64 xtk, .bool xtp, .int .i64 xpd] 24)) = u10 at *
    have q := specTakeAnswer_any At d.length ct _ d ps pp tk tp (m : Int) u10 ot.sees (by omega)
    refine q.mono ?_
    clear q
    rintro e w11 ⟨Ay, cy, rfl, oy, b11⟩
    simp only [H1.out, H2.out, H3.out, takeV, ansW, ansR]
    simp only [H1.out] at oy
    have s11 := b11.size
    replace ot := ot.below b11
    replace ox := ox.below b11
    replace rt := rowKeep rt b11
    clear mt0 mt1 mt2 mt3 mt4 mt5
    obtain ⟨mt0, mt1, mt2, mt3, mt4, mt5⟩ := cells6 rt
    replace rx := rowKeep rx b11
    clear mx0 mx1 mx2 mx3 mx4 mx5
    obtain ⟨mx0, mx1, mx2, mx3, mx4, mx5⟩ := cells6 rx
    replace hB := below_later hB b11 (Nat.le_refl _)
    clear b11
    have k12 := mt0
    have k13 := mt1
    have k14 := mt2
    have k15 := mt3
    have k16 := mt4
    have k17 := mt5
    have k18 := mx0
    have k19 := mx1
    have k20 := mx2
    have k21 := mx3
    have k22 := mx4
    have k23 := mx5
    have hn24 := below_new w11 (.cells #[.slice Ay d.length cy, .int .i64 ps, .bool pp, .int .i64 xtk, .bool xtp, .int .i64 xpd] 24)
    replace ot := ot.below hn24
    replace ox := ox.below hn24
    replace oy := oy.below hn24
    replace rt := rowKeep rt hn24
    clear mt0 mt1 mt2 mt3 mt4 mt5
    obtain ⟨mt0, mt1, mt2, mt3, mt4, mt5⟩ := cells6 rt
    replace rx := rowKeep rx hn24
    clear mx0 mx1 mx2 mx3 mx4 mx5
    obtain ⟨mx0, mx1, mx2, mx3, mx4, mx5⟩ := cells6 rx
    replace hB := below_later hB hn24 (Nat.le_refl _)
    clear hn24
    have ry : (w11.alloc (.cells #[.slice Ay d.length cy, .int .i64 ps, .bool pp, .int .i64 xtk, .bool xtp, .int .i64 xpd] 24)).heap[w11.heap.size]? = some (.cells #[.slice Ay d.length cy, .int .i64 ps, .bool pp, .int .i64 xtk, .bool xtp, .int .i64 xpd] 24 (0, 0)) := heap_alloc_new _ _
    obtain ⟨my0, my1, my2, my3, my4, my5⟩ := cells6 ry
    have s24 : w11.heap.size < (w11.alloc (.cells #[.slice Ay d.length cy, .int .i64 ps, .bool pp, .int .i64 xtk, .bool xtp, .int .i64 xpd] 24)).heap.size := Nat.lt_of_lt_of_eq (Nat.lt_succ_self _) (World.size_alloc _ _).symm
    go_wp2_with fail
    clear k12 k13 k14 k15 k16 k17 k18 k19 k20 k21 k22 k23
    generalize (w11.alloc (.cells #[.slice Ay d.length cy, .int .i64 ps, .bool pp, .int .i64 xtk, .bool xtp, .int .i64 xpd] 24)) = u24 at *
    refine (sameAnswers_t _ _ _ _ _ _ _ _ _ _ _ _ _ _ _ ox.sees oy.sees (by omega) (by omega)).mono ?_
    rintro e w25 ⟨rfl, b25⟩
    have s25 := b25.size
    replace ot := ot.below b25
    replace ox := ox.below b25
    replace oy := oy.below b25
    replace rt := rowKeep rt b25
    clear mt0 mt1 mt2 mt3 mt4 mt5
    obtain ⟨mt0, mt1, mt2, mt3, mt4, mt5⟩ := cells6 rt
    replace rx := rowKeep rx b25
    clear mx0 mx1 mx2 mx3 mx4 mx5
    obtain ⟨mx0, mx1, mx2, mx3, mx4, mx5⟩ := cells6 rx
    replace ry := rowKeep ry b25
    clear my0 my1 my2 my3 my4 my5
    obtain ⟨my0, my1, my2, my3, my4, my5⟩ := cells6 ry
    replace hB := below_later hB b25 (Nat.le_refl _)
    clear b25
    go_wp2_with fail
    clear oy
    clear ry my0 my1 my2 my3 my4 my5
    go_wp2_with fail
    have q := specAnswersValid_any At d.length ct _ d ps pp tk tp (m : Int) w25 ot.sees (by omega)
    rw [HV.out] at q
    refine q.mono ?_
    clear q
    rintro e w26 ⟨rfl, b26⟩
    have s26 := b26.size
    replace ot := ot.below b26
    replace ox := ox.below b26
    replace rt := rowKeep rt b26
    clear mt0 mt1 mt2 mt3 mt4 mt5
    obtain ⟨mt0, mt1, mt2, mt3, mt4, mt5⟩ := cells6 rt
    replace rx := rowKeep rx b26
    clear mx0 mx1 mx2 mx3 mx4 mx5
    obtain ⟨mx0, mx1, mx2, mx3, mx4, mx5⟩ := cells6 rx
    replace hB := below_later hB b26 (Nat.le_refl _)
    clear b26
    go_upto_region 12 with fail
    have hst : AtBoxA w w26 (w1.heap.size) At ct d ps pp tk tp (m : Int) _ _ := ⟨rt, ot, by omega, by omega, hB, by omega, by omega⟩
    have hx1 : ∃ lo hi, Own w26 lo hi 46 2 Ax d.length cx (ansC d) ∧ (w1.heap.size < lo ∧ hi ≤ w26.heap.size) := ⟨_, _, ox, by omega, by omega⟩
    have hrx := rx
    clear rt ot rx ox hB mt0 mt1 mt2 mt3 mt4 mt5 mx0 mx1 mx2 mx3 mx4 mx5
    have hgx : w3.heap.size < w26.heap.size ∧ w3.heap.size ≠ w1.heap.size := ⟨by omega, by omega⟩
    go_loopw [10, 11] (fun i b wr => ∃ (j : Nat) (mo : Bool), j ≤ 16 ∧ i = .int .i64 j ∧ b = .bool mo ∧ (∃ A c tk tp pd lo hi, AtBoxA w wr (w1.heap.size) A c d ps pp tk tp pd lo hi ∧ Hid (aval ⟨d, ps, pp, tk, tp, pd⟩ = true ∧ (if mo = true then pd + j = (m : Int) else pd = 0 ∧ j = m))) ∧ (∃ lo hi, Own wr lo hi 46 2 Ax d.length cx (ansC d) ∧ (w1.heap.size < lo ∧ hi ≤ wr.heap.size)) ∧ wr.heap[w3.heap.size]? = some (.cells #[.slice Ax d.length cx, .int .i64 ps, .bool pp, .int .i64 xtk, .bool xtp, .int .i64 xpd] 24 (0, 0))) (fun i b _ => match b with | .bool true => 20 - (intOf i).toNat | _ => 0)
    case atStart => exact ⟨0, true, by omega, rfl, rfl, ⟨At, ct, tk, tp, (m : Int), _, _, hst, Lib.hid ⟨HV.out, by simp⟩⟩, hx1, hrx⟩
    case round =>
      clear hst hx1 hrx
      obtain ⟨j, mo, hj, rfl, rfl, ⟨A1, c1, tk1, tp1, pd1, lo1, hi1, sb, hvj⟩, ⟨lox, hix, ox, hx0, hx2⟩, rx⟩ := hrel
      have rt := sb.row
      have ot := sb.own
      have hB := sb.bel
      have hoff := sb.off
      have hhi := sb.hi_
      have hin := sb.in_
      have hct1 := ot.cap
      clear sb
      cases mo
      · obtain ⟨mt0, mt1, mt2, mt3, mt4, mt5⟩ := cells6 rt
        obtain ⟨mx0, mx1, mx2, mx3, mx4, mx5⟩ := cells6 rx
        have hpj : pd1 = 0 ∧ j = m := by have := hvj.out.2; simpa using this
        obtain ⟨rfl, rfl⟩ := hpj
        have HVA := Lib.hid hvj.out.1
        have i9 : (j : Int) ≤ (d.length : Int) := by omega
        go_wp2_with fail
        have q := implAnswersValid_any Ax d.length cx _ d ps pp xtk xtp xpd wr ox.sees (by omega)
        rw [H4.out] at q
        refine q.mono ?_
        clear q
        rintro e w27 ⟨rfl, b27⟩
        have s27 := b27.size
        replace ot := ot.below b27
        replace ox := ox.below b27
        replace rt := rowKeep rt b27
        clear mt0 mt1 mt2 mt3 mt4 mt5
        obtain ⟨mt0, mt1, mt2, mt3, mt4, mt5⟩ := cells6 rt
        replace rx := rowKeep rx b27
        clear mx0 mx1 mx2 mx3 mx4 mx5
        obtain ⟨mx0, mx1, mx2, mx3, mx4, mx5⟩ := cells6 rx
        replace hB := below_later hB b27 (Nat.le_refl _)
        clear b27
        go_wp2_with fail
        have q := implAnswersValid_any A1 d.length c1 _ d ps pp tk1 tp1 0 w27 ot.sees (by omega)
        rw [HVA.out] at q
        refine q.mono ?_
        clear q
        rintro e w28 ⟨rfl, b28⟩
        have s28 := b28.size
        replace ot := ot.below b28
        replace ox := ox.below b28
        replace rt := rowKeep rt b28
        clear mt0 mt1 mt2 mt3 mt4 mt5
        obtain ⟨mt0, mt1, mt2, mt3, mt4, mt5⟩ := cells6 rt
        replace rx := rowKeep rx b28
        clear mx0 mx1 mx2 mx3 mx4 mx5
        obtain ⟨mx0, mx1, mx2, mx3, mx4, mx5⟩ := cells6 rx
        replace hB := below_later hB b28 (Nat.le_refl _)
        clear b28
        go_wp2_with fail
        go_ret
        exact ⟨rfl, hB⟩
      · obtain ⟨mt0, mt1, mt2, mt3, mt4, mt5⟩ := cells6 rt
        obtain ⟨mx0, mx1, mx2, mx3, mx4, mx5⟩ := cells6 rx
        have hvv := hvj.out.1
        have hpj : pd1 + (j : Int) = (m : Int) := by have := hvj.out.2; simpa using this
        have hbd := aval_bd _ _ _ _ _ _ hvv
        have hp0 : 0 ≤ pd1 := hbd.2.2.1
        by_cases hpp : 0 < pd1
        · have hcut := atake_cut _ hvv (by show 0 < pd1; omega)
          have hcv := acut_val _ hvv (by show 0 < pd1; omega)
          unfold acut at hcut hcv
          simp only at hcut hcv
          generalize (tk1 + 1) % _ = tk2 at hcut hcv
          generalize (tp1 != _) = tp2 at hcut hcv
          obtain ⟨h1, h2, h3⟩ := hcut
          have h5 := hcv
          generalize atop ⟨d, ps, pp, tk1, tp1, pd1⟩ = top1 at h3
          have K1 := Lib.hid h1
          have K2 := Lib.hid h2
          have K3 := Lib.hid h3
          have K5 := Lib.hid h5
          clear h1 h2 h3 h5 hvv
          go_wp2_with fail
          have q := implTakeAnswer_any A1 d.length c1 _ d ps pp tk1 tp1 pd1 wr ot.sees hhi
          refine q.mono ?_
          clear q
          rintro e w27 ⟨A2, c2, rfl, o2, b27⟩
          simp only [K1.out, K2.out, K3.out, takeV, ansW, ansR]
          simp only [K1.out] at o2
          have s27 := b27.size
          replace ot := ot.below b27
          replace ox := ox.below b27
          replace rt := rowKeep rt b27
          clear mt0 mt1 mt2 mt3 mt4 mt5
          obtain ⟨mt0, mt1, mt2, mt3, mt4, mt5⟩ := cells6 rt
          replace rx := rowKeep rx b27
          clear mx0 mx1 mx2 mx3 mx4 mx5
          obtain ⟨mx0, mx1, mx2, mx3, mx4, mx5⟩ := cells6 rx
          replace hB := below_later hB b27 (Nat.le_refl _)
          clear b27
          have k28 := mt0
          have k29 := mt1
          have k30 := mt2
          have k31 := mt3
          have k32 := mt4
          have k33 := mt5
          have k34 := mx0
          have k35 := mx1
          have k36 := mx2
          have k37 := mx3
          have k38 := mx4
          have k39 := mx5
          have hn40 := below_new w27 (.cells #[.slice A2 d.length c2, .int .i64 ps, .bool pp, .int .i64 tk2, .bool tp2, .int .i64 (pd1 - 1)] 24)
          replace ot := ot.below hn40
          replace ox := ox.below hn40
          replace o2 := o2.below hn40
          replace rt := rowKeep rt hn40
          clear mt0 mt1 mt2 mt3 mt4 mt5
          obtain ⟨mt0, mt1, mt2, mt3, mt4, mt5⟩ := cells6 rt
          replace rx := rowKeep rx hn40
          clear mx0 mx1 mx2 mx3 mx4 mx5
          obtain ⟨mx0, mx1, mx2, mx3, mx4, mx5⟩ := cells6 rx
          replace hB := below_later hB hn40 (Nat.le_refl _)
          clear hn40
          have rb : (w27.alloc (.cells #[.slice A2 d.length c2, .int .i64 ps, .bool pp, .int .i64 tk2, .bool tp2, .int .i64 (pd1 - 1)] 24)).heap[w27.heap.size]? = some (.cells #[.slice A2 d.length c2, .int .i64 ps, .bool pp, .int .i64 tk2, .bool tp2, .int .i64 (pd1 - 1)] 24 (0, 0)) := heap_alloc_new _ _
          obtain ⟨mb0, mb1, mb2, mb3, mb4, mb5⟩ := cells6 rb
          have s40 : w27.heap.size < (w27.alloc (.cells #[.slice A2 d.length c2, .int .i64 ps, .bool pp, .int .i64 tk2, .bool tp2, .int .i64 (pd1 - 1)] 24)).heap.size := Nat.lt_of_lt_of_eq (Nat.lt_succ_self _) (World.size_alloc _ _).symm
          go_upto_region 17 with fail
          clear k28 k29 k30 k31 k32 k33 k34 k35 k36 k37 k38 k39
          generalize (w27.alloc (.cells #[.slice A2 d.length c2, .int .i64 ps, .bool pp, .int .i64 tk2, .bool tp2, .int .i64 (pd1 - 1)] 24)) = u40 at *
          have HS := Lib.hid (AtBoxA.put (d2 := d) rt o2 (by omega) (by omega) hB hin.1 : AtBoxA w (st6 u40 (w1.heap.size) (.slice A2 d.length c2) (.int .i64 ps) (.bool pp) (.int .i64 tk2) (.bool tp2) (.int .i64 (pd1 - 1))) (w1.heap.size) A2 c2 d ps pp tk2 tp2 (pd1 - 1) _ _)
          have HOX := Lib.hid (And.intro (own6 (g := w1.heap.size) ox (by omega) (.slice A2 d.length c2) (.int .i64 ps) (.bool pp) (.int .i64 tk2) (.bool tp2) (.int .i64 (pd1 - 1))) (show w1.heap.size < lox ∧ hix ≤ (st6 u40 (w1.heap.size) (.slice A2 d.length c2) (.int .i64 ps) (.bool pp) (.int .i64 tk2) (.bool tp2) (.int .i64 (pd1 - 1))).heap.size from ⟨hx0, by rw [size6]; omega⟩))
          have HRX := Lib.hid (rowSet6 (g := w1.heap.size) rx (by omega) (.slice A2 d.length c2) (.int .i64 ps) (.bool pp) (.int .i64 tk2) (.bool tp2) (.int .i64 (pd1 - 1)))
          obtain ⟨z0, z1, z2, z3, z4, z5⟩ := frz6 rt
          have e1 : IntKind.i64.wrap ((j : Int) + 1) = (j : Int) + 1 := IntWalk.i64_in _ (by omega)
          clear rt rx rb ot ox o2 hB
          go_wp2_with fail
          go_roundw
          case rel => exact ⟨j + 1, true, by omega, by go_num, rfl, ⟨A2, c2, _, _, _, _, _, HS.out, Lib.hid ⟨K5.out, by simp; omega⟩⟩, ⟨_, _, HOX.out⟩, HRX.out⟩
          case measure => simp [intOf]; omega
        · obtain ⟨h1, h2, h3⟩ := atake_none _ hvv (by show pd1 ≤ 0; omega)
          have h5 := hvv
          generalize atop ⟨d, ps, pp, tk1, tp1, pd1⟩ = top1 at h3
          have K1 := Lib.hid h1
          have K2 := Lib.hid h2
          have K3 := Lib.hid h3
          have K5 := Lib.hid h5
          clear h1 h2 h3 h5 hvv
          go_wp2_with fail
          have q := implTakeAnswer_any A1 d.length c1 _ d ps pp tk1 tp1 pd1 wr ot.sees hhi
          refine q.mono ?_
          clear q
          rintro e w27 ⟨A2, c2, rfl, o2, b27⟩
          simp only [K1.out, K2.out, K3.out, takeV, ansW, ansR]
          simp only [K1.out] at o2
          have s27 := b27.size
          replace ot := ot.below b27
          replace ox := ox.below b27
          replace rt := rowKeep rt b27
          clear mt0 mt1 mt2 mt3 mt4 mt5
          obtain ⟨mt0, mt1, mt2, mt3, mt4, mt5⟩ := cells6 rt
          replace rx := rowKeep rx b27
          clear mx0 mx1 mx2 mx3 mx4 mx5
          obtain ⟨mx0, mx1, mx2, mx3, mx4, mx5⟩ := cells6 rx
          replace hB := below_later hB b27 (Nat.le_refl _)
          clear b27
          have k28 := mt0
          have k29 := mt1
          have k30 := mt2
          have k31 := mt3
          have k32 := mt4
          have k33 := mt5
          have k34 := mx0
          have k35 := mx1
          have k36 := mx2
          have k37 := mx3
          have k38 := mx4
          have k39 := mx5
          have hn40 := below_new w27 (.cells #[.slice A2 d.length c2, .int .i64 ps, .bool pp, .int .i64 tk1, .bool tp1, .int .i64 pd1] 24)
          replace ot := ot.below hn40
          replace ox := ox.below hn40
          replace o2 := o2.below hn40
          replace rt := rowKeep rt hn40
          clear mt0 mt1 mt2 mt3 mt4 mt5
          obtain ⟨mt0, mt1, mt2, mt3, mt4, mt5⟩ := cells6 rt
          replace rx := rowKeep rx hn40
          clear mx0 mx1 mx2 mx3 mx4 mx5
          obtain ⟨mx0, mx1, mx2, mx3, mx4, mx5⟩ := cells6 rx
          replace hB := below_later hB hn40 (Nat.le_refl _)
          clear hn40
          have rb : (w27.alloc (.cells #[.slice A2 d.length c2, .int .i64 ps, .bool pp, .int .i64 tk1, .bool tp1, .int .i64 pd1] 24)).heap[w27.heap.size]? = some (.cells #[.slice A2 d.length c2, .int .i64 ps, .bool pp, .int .i64 tk1, .bool tp1, .int .i64 pd1] 24 (0, 0)) := heap_alloc_new _ _
          obtain ⟨mb0, mb1, mb2, mb3, mb4, mb5⟩ := cells6 rb
          have s40 : w27.heap.size < (w27.alloc (.cells #[.slice A2 d.length c2, .int .i64 ps, .bool pp, .int .i64 tk1, .bool tp1, .int .i64 pd1] 24)).heap.size := Nat.lt_of_lt_of_eq (Nat.lt_succ_self _) (World.size_alloc _ _).symm
          go_upto_region 17 with fail
          clear k28 k29 k30 k31 k32 k33 k34 k35 k36 k37 k38 k39
          generalize (w27.alloc (.cells #[.slice A2 d.length c2, .int .i64 ps, .bool pp, .int .i64 tk1, .bool tp1, .int .i64 pd1] 24)) = u40 at *
          have HS := Lib.hid (AtBoxA.put (d2 := d) rt o2 (by omega) (by omega) hB hin.1 : AtBoxA w (st6 u40 (w1.heap.size) (.slice A2 d.length c2) (.int .i64 ps) (.bool pp) (.int .i64 tk1) (.bool tp1) (.int .i64 pd1)) (w1.heap.size) A2 c2 d ps pp tk1 tp1 pd1 _ _)
          have HOX := Lib.hid (And.intro (own6 (g := w1.heap.size) ox (by omega) (.slice A2 d.length c2) (.int .i64 ps) (.bool pp) (.int .i64 tk1) (.bool tp1) (.int .i64 pd1)) (show w1.heap.size < lox ∧ hix ≤ (st6 u40 (w1.heap.size) (.slice A2 d.length c2) (.int .i64 ps) (.bool pp) (.int .i64 tk1) (.bool tp1) (.int .i64 pd1)).heap.size from ⟨hx0, by rw [size6]; omega⟩))
          have HRX := Lib.hid (rowSet6 (g := w1.heap.size) rx (by omega) (.slice A2 d.length c2) (.int .i64 ps) (.bool pp) (.int .i64 tk1) (.bool tp1) (.int .i64 pd1))
          obtain ⟨z0, z1, z2, z3, z4, z5⟩ := frz6 rt
          have e1 : IntKind.i64.wrap ((j : Int) + 1) = (j : Int) + 1 := IntWalk.i64_in _ (by omega)
          clear rt rx rb ot ox o2 hB
          go_wp2_with fail
          go_roundw
          case rel => exact ⟨j, false, by omega, rfl, rfl, ⟨A2, c2, _, _, _, _, _, HS.out, Lib.hid ⟨K5.out, by simp; omega⟩⟩, ⟨_, _, HOX.out⟩, HRX.out⟩
          case measure => simp [intOf]; omega
end Go.Proofs.Ythkiollagnjfaaa
