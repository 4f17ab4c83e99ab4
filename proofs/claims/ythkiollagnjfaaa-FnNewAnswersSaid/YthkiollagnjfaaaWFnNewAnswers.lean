/-
  Walk: the law FnNewAnswers returns true.
-/
import Derived.Deep.DeepCutAuto
import Derived.Deep.RegionHeld3
import Derived.IntWalk
import Derived.Test.YthkiollagnjfaaaN14
import Derived.Test.YthkiollagnjfaaaN5
import Derived.Test.YthkiollagnjfaaaN12
import Derived.Test.YthkiollagnjfaaaS3
import Derived.Test.YthkiollagnjfaaaA
namespace Go.Proofs.Ythkiollagnjfaaa
open Go.RowKit
set_option linter.unusedSimpArgs false
set_option linter.unusedVariables false
set_option maxHeartbeats 8000000 in
theorem law_FnNewAnswers (w : World) (A : Option Addr) (n c : Nat) (bs : List Int) (h : Sees w w.heap.size 1 A n c (byts bs)) (hb : ∀ v ∈ bs, 0 ≤ v ∧ v ≤ 255) :
    Calls Try.prog 5 #[.slice A n c] w (RetPure w (.bool true)) := by
  have hc1 := h.cap
  have hc2 := h.big
  by_cases hn : 1048576 < n
  · go_enter Try.func5, Try.ntmps5
    go_wp2_with fail
    go_ret
    exact ⟨rfl, Below.refl _ _⟩
  have hB : Below w.heap.size w w := Below.refl _ _
  go_enter Try.func5, Try.ntmps5
  go_wp2_with fail
  refine (drawNewAnswers_any _ _ _ _ _ _ h (Nat.le_refl _) hb).mono ?_
  rintro e w1 ⟨q, rfl, hq, b1⟩
  have s1 := b1.size
  replace hB := below_later hB b1 (Nat.le_refl _)
  clear b1
  clear h hb
  have hl := anew_16 q
  obtain ⟨hq0, hq1⟩ := hq
  cases hw : win q 1 16
  · by_cases hlo : q < 1
    · have HW := Lib.hid hw
      have i1 : q < 1 := hlo
      have hz : decide (1 ≤ q) = false := decide_eq_false (by omega)
      have hrd := anew_no q hw
      obtain ⟨rd, hrz⟩ : ∃ rd : List (Int × Bool), rd = [] := ⟨_, rfl⟩
      rw [hrd, ← hrz] at hl
      rw [← hrz] at hrd
      have HR := Lib.hid hrd
      have hv : aval ⟨rd, 0, false, 0, false, 0⟩ = false := by rw [hrz]; exact az_val
      have haz : az = ⟨rd, 0, false, 0, false, 0⟩ := by rw [hrz]; rfl
      obtain ⟨h1, h2, h3⟩ := atake_no _ hv
      obtain ⟨h4, h5⟩ := apost_no _ 9 hv
      rw [haz] at h1 h4
      have H1 := Lib.hid h1
      have H2 := Lib.hid h2
      have H3 := Lib.hid h3
      have H4 := Lib.hid h4
      have H5 := Lib.hid h5
      have HV := Lib.hid hv
      clear hrd hrz haz hw hv h1 h2 h3 h4 h5
      go_wp2_with fail
      have q := implNewAnswers_any q w1
      refine q.mono ?_
      clear q
      rintro e w2 ⟨At, ct, rfl, ot, b2⟩
      simp only [HR.out, HW.out, ansR]
      simp only [HR.out] at ot
      have s2 := b2.size
      replace hB := below_later hB b2 (Nat.le_refl _)
      clear b2
      have hn3 := below_new w2 (.cells #[.slice At rd.length ct, .int .i64 0, .bool false, .int .i64 0, .bool false, .int .i64 0] 24)
      replace ot := ot.below hn3
      replace hB := below_later hB hn3 (Nat.le_refl _)
      clear hn3
      have rt : (w2.alloc (.cells #[.slice At rd.length ct, .int .i64 0, .bool false, .int .i64 0, .bool false, .int .i64 0] 24)).heap[w2.heap.size]? = some (.cells #[.slice At rd.length ct, .int .i64 0, .bool false, .int .i64 0, .bool false, .int .i64 0] 24 (0, 0)) := heap_alloc_new _ _
      obtain ⟨mt0, mt1, mt2, mt3, mt4, mt5⟩ := cells6 rt
      have s3 : w2.heap.size < (w2.alloc (.cells #[.slice At rd.length ct, .int .i64 0, .bool false, .int .i64 0, .bool false, .int .i64 0] 24)).heap.size := Nat.lt_of_lt_of_eq (Nat.lt_succ_self _) (World.size_alloc _ _).symm
      go_wp2_with fail
      generalize (w2.alloc (.cells #[.slice At rd.length ct, .int .i64 0, .bool false, .int .i64 0, .bool false, .int .i64 0] 24)) = u3 at *
      have hn4 : Below u3.heap.size u3 u3.drew := below_drewN (Below.refl _ _) 1
      have s4 : u3.heap.size ≤ u3.drew.heap.size := Nat.le_refl _
      replace ot := ot.below hn4
      replace rt := rowKeep rt hn4
      clear mt0 mt1 mt2 mt3 mt4 mt5
      obtain ⟨mt0, mt1, mt2, mt3, mt4, mt5⟩ := cells6 rt
      replace hB := below_later hB hn4 (Nat.le_refl _)
      clear hn4
      refine wp_region_noPanic ?_
      refine wp_region_held_drew (S := fun w' => w'.cell? ⟨w2.heap.size, 0, none⟩ = some (.slice At rd.length ct) ∧ w'.cell? ⟨w2.heap.size, 1, none⟩ = some (.int .i64 0) ∧ w'.cell? ⟨w2.heap.size, 2, none⟩ = some (.bool false) ∧ w'.cell? ⟨w2.heap.size, 3, none⟩ = some (.int .i64 0) ∧ w'.cell? ⟨w2.heap.size, 4, none⟩ = some (.bool false) ∧ w'.cell? ⟨w2.heap.size, 5, none⟩ = some (.int .i64 0)) (by kernel_rfl) ⟨mt0, mt1, mt2, mt3, mt4, mt5⟩ (fun hHeld => ?_)
      generalize u3.drew = u4 at *
      refine wpAnyH_take (i := 0) (v := ?_) rfl (by kernel_rfl) (by kernel_rfl) (by kernel_rfl) (fun _ _ _ h => h) (Or.inl ⟨by rfl, ?_⟩) (by assumption) ?_
      rotate_left
      · (intro wz hSw; (try dsimp only at hSw); go_simp; try with_reducible rfl)
      simp only [Act.put, List.getElem_toArray, List.getElem_cons_zero, List.getElem_cons_succ, List.setIfInBounds_toArray, List.set_cons_zero, List.set_cons_succ]
      refine wpAnyH_take (i := 1) (v := ?_) rfl (by kernel_rfl) (by kernel_rfl) (by kernel_rfl) (fun _ _ _ h => h) (Or.inl ⟨by rfl, ?_⟩) (by assumption) ?_
      rotate_left
      · (intro wz hSw; (try dsimp only at hSw); go_simp; try with_reducible rfl)
      simp only [Act.put, List.getElem_toArray, List.getElem_cons_zero, List.getElem_cons_succ, List.setIfInBounds_toArray, List.set_cons_zero, List.set_cons_succ]
      refine wpAnyH_ready (rs := [2]) (by kernel_rfl) (by simp) ?_
      refine AllReadyH.cons rfl (fun K hK => ?_) ?_
      · go_simp
        have q := specNewAnswers_any q u4
        refine q.mono ?_
        clear q
        rintro e w5 ⟨Ay, cy, rfl, oy, b5⟩
        simp only [HR.out, HW.out, ansR]
        simp only [HR.out] at oy
        have s5 := b5.size
        replace ot := ot.below b5
        replace rt := rowKeep rt b5
        clear mt0 mt1 mt2 mt3 mt4 mt5
        obtain ⟨mt0, mt1, mt2, mt3, mt4, mt5⟩ := cells6 rt
        replace hB := below_later hB b5 (Nat.le_refl _)
        clear b5
        refine hK.out _ _ ⟨mt0, mt1, mt2, mt3, mt4, mt5⟩ (fun hHeld => ?_)
        clear hK K
        try simp only [Act.put, List.getElem_toArray, List.getElem_cons_zero, List.getElem_cons_succ, List.setIfInBounds_toArray, List.set_cons_zero, List.set_cons_succ]
        refine wpAnyH_ready (rs := [3]) (by kernel_rfl) (by simp) ?_
        refine AllReadyH.cons rfl (fun K hK => ?_) ?_
        · go_simp
          refine (sameAnswers_t _ _ _ _ _ _ _ _ _ _ _ _ _ _ _ ot.sees oy.sees (by omega) (by omega)).mono ?_
          rintro e w6 ⟨rfl, b6⟩
          have s6 := b6.size
          replace ot := ot.below b6
          replace oy := oy.below b6
          replace rt := rowKeep rt b6
          clear mt0 mt1 mt2 mt3 mt4 mt5
          obtain ⟨mt0, mt1, mt2, mt3, mt4, mt5⟩ := cells6 rt
          replace hB := below_later hB b6 (Nat.le_refl _)
          clear b6
          refine hK.out _ _ ⟨mt0, mt1, mt2, mt3, mt4, mt5⟩ (fun hHeld => ?_)
          clear hK K
          try simp only [Act.put, List.getElem_toArray, List.getElem_cons_zero, List.getElem_cons_succ, List.setIfInBounds_toArray, List.set_cons_zero, List.set_cons_succ]
          refine wpAnyH_take (i := 4) (v := ?_) rfl (by kernel_rfl) (by kernel_rfl) (by kernel_rfl) (fun _ _ _ h => h) (Or.inl ⟨by rfl, ?_⟩) (by assumption) ?_
          rotate_left
          · (intro wz hSw; (try dsimp only at hSw); go_simp; try with_reducible rfl)
          simp only [Act.put, List.getElem_toArray, List.getElem_cons_zero, List.getElem_cons_succ, List.setIfInBounds_toArray, List.set_cons_zero, List.set_cons_succ]
          refine wpAnyH_done (by kernel_rfl) ?_ _
          refine NoPanic.normal ?_
          clear oy
          go_wp2_with fail
          have q := implTakeAnswer_any At rd.length ct _ rd 0 false 0 false 0 w6 ot.sees (by omega)
          refine q.mono ?_
          clear q
          rintro e w7 ⟨Ax, cx, rfl, ox, b7⟩
          simp only [H1.out, H2.out, H3.out, takeV, ansW, ansR]
          simp only [H1.out] at ox
          have s7 := b7.size
          replace ot := ot.below b7
          replace rt := rowKeep rt b7
          clear mt0 mt1 mt2 mt3 mt4 mt5
          obtain ⟨mt0, mt1, mt2, mt3, mt4, mt5⟩ := cells6 rt
          replace hB := below_later hB b7 (Nat.le_refl _)
          clear b7
          have k8 := mt0
          have k9 := mt1
          have k10 := mt2
          have k11 := mt3
          have k12 := mt4
          have k13 := mt5
          have hn14 := below_new w7 (.cells #[.slice Ax rd.length cx, .int .i64 0, .bool false, .int .i64 0, .bool false, .int .i64 0] 24)
          replace ot := ot.below hn14
          replace ox := ox.below hn14
          replace rt := rowKeep rt hn14
          clear mt0 mt1 mt2 mt3 mt4 mt5
          obtain ⟨mt0, mt1, mt2, mt3, mt4, mt5⟩ := cells6 rt
          replace hB := below_later hB hn14 (Nat.le_refl _)
          clear hn14
          have rx : (w7.alloc (.cells #[.slice Ax rd.length cx, .int .i64 0, .bool false, .int .i64 0, .bool false, .int .i64 0] 24)).heap[w7.heap.size]? = some (.cells #[.slice Ax rd.length cx, .int .i64 0, .bool false, .int .i64 0, .bool false, .int .i64 0] 24 (0, 0)) := heap_alloc_new _ _
          obtain ⟨mx0, mx1, mx2, mx3, mx4, mx5⟩ := cells6 rx
          have s14 : w7.heap.size < (w7.alloc (.cells #[.slice Ax rd.length cx, .int .i64 0, .bool false, .int .i64 0, .bool false, .int .i64 0] 24)).heap.size := Nat.lt_of_lt_of_eq (Nat.lt_succ_self _) (World.size_alloc _ _).symm
          go_wp2_with fail
          clear k8 k9 k10 k11 k12 k13
          generalize (w7.alloc (.cells #[.slice Ax rd.length cx, .int .i64 0, .bool false, .int .i64 0, .bool false, .int .i64 0] 24)) = u14 at *
          have q := implPostAnswer_any At rd.length ct _ rd 0 false 0 false 0 9 u14 ot.sees (by omega)
          refine q.mono ?_
          clear q
          rintro e w15 ⟨Ab, cb, rfl, ob, b15⟩
          simp only [H4.out, H5.out, postV, ansW, ansR]
          simp only [H4.out] at ob
          have s15 := b15.size
          replace ot := ot.below b15
          replace ox := ox.below b15
          replace rt := rowKeep rt b15
          clear mt0 mt1 mt2 mt3 mt4 mt5
          obtain ⟨mt0, mt1, mt2, mt3, mt4, mt5⟩ := cells6 rt
          replace rx := rowKeep rx b15
          clear mx0 mx1 mx2 mx3 mx4 mx5
          obtain ⟨mx0, mx1, mx2, mx3, mx4, mx5⟩ := cells6 rx
          replace hB := below_later hB b15 (Nat.le_refl _)
          clear b15
          have k16 := mt0
          have k17 := mt1
          have k18 := mt2
          have k19 := mt3
          have k20 := mt4
          have k21 := mt5
          have k22 := mx0
          have k23 := mx1
          have k24 := mx2
          have k25 := mx3
          have k26 := mx4
          have k27 := mx5
          have hn28 := below_new w15 (.cells #[.slice Ab rd.length cb, .int .i64 0, .bool false, .int .i64 0, .bool false, .int .i64 0] 24)
          replace ot := ot.below hn28
          replace ox := ox.below hn28
          replace ob := ob.below hn28
          replace rt := rowKeep rt hn28
          clear mt0 mt1 mt2 mt3 mt4 mt5
          obtain ⟨mt0, mt1, mt2, mt3, mt4, mt5⟩ := cells6 rt
          replace rx := rowKeep rx hn28
          clear mx0 mx1 mx2 mx3 mx4 mx5
          obtain ⟨mx0, mx1, mx2, mx3, mx4, mx5⟩ := cells6 rx
          replace hB := below_later hB hn28 (Nat.le_refl _)
          clear hn28
          have rb : (w15.alloc (.cells #[.slice Ab rd.length cb, .int .i64 0, .bool false, .int .i64 0, .bool false, .int .i64 0] 24)).heap[w15.heap.size]? = some (.cells #[.slice Ab rd.length cb, .int .i64 0, .bool false, .int .i64 0, .bool false, .int .i64 0] 24 (0, 0)) := heap_alloc_new _ _
          obtain ⟨mb0, mb1, mb2, mb3, mb4, mb5⟩ := cells6 rb
          have s28 : w15.heap.size < (w15.alloc (.cells #[.slice Ab rd.length cb, .int .i64 0, .bool false, .int .i64 0, .bool false, .int .i64 0] 24)).heap.size := Nat.lt_of_lt_of_eq (Nat.lt_succ_self _) (World.size_alloc _ _).symm
          go_wp2_with fail
          clear k16 k17 k18 k19 k20 k21 k22 k23 k24 k25 k26 k27
          generalize (w15.alloc (.cells #[.slice Ab rd.length cb, .int .i64 0, .bool false, .int .i64 0, .bool false, .int .i64 0] 24)) = u28 at *
          have q := implTakeAnswer_any Ab rd.length cb _ rd 0 false 0 false 0 u28 ob.sees (by omega)
          refine q.mono ?_
          clear q
          rintro e w29 ⟨Ae, ce, rfl, oe, b29⟩
          simp only [H1.out, H2.out, H3.out, takeV, ansW, ansR]
          simp only [H1.out] at oe
          have s29 := b29.size
          replace ot := ot.below b29
          replace ox := ox.below b29
          replace ob := ob.below b29
          replace rt := rowKeep rt b29
          clear mt0 mt1 mt2 mt3 mt4 mt5
          obtain ⟨mt0, mt1, mt2, mt3, mt4, mt5⟩ := cells6 rt
          replace rx := rowKeep rx b29
          clear mx0 mx1 mx2 mx3 mx4 mx5
          obtain ⟨mx0, mx1, mx2, mx3, mx4, mx5⟩ := cells6 rx
          replace rb := rowKeep rb b29
          clear mb0 mb1 mb2 mb3 mb4 mb5
          obtain ⟨mb0, mb1, mb2, mb3, mb4, mb5⟩ := cells6 rb
          replace hB := below_later hB b29 (Nat.le_refl _)
          clear b29
          have k30 := mt0
          have k31 := mt1
          have k32 := mt2
          have k33 := mt3
          have k34 := mt4
          have k35 := mt5
          have k36 := mx0
          have k37 := mx1
          have k38 := mx2
          have k39 := mx3
          have k40 := mx4
          have k41 := mx5
          have k42 := mb0
          have k43 := mb1
          have k44 := mb2
          have k45 := mb3
          have k46 := mb4
          have k47 := mb5
          have hn48 := below_new w29 (.cells #[.slice Ae rd.length ce, .int .i64 0, .bool false, .int .i64 0, .bool false, .int .i64 0] 24)
          replace ot := ot.below hn48
          replace ox := ox.below hn48
          replace ob := ob.below hn48
          replace oe := oe.below hn48
          replace rt := rowKeep rt hn48
          clear mt0 mt1 mt2 mt3 mt4 mt5
          obtain ⟨mt0, mt1, mt2, mt3, mt4, mt5⟩ := cells6 rt
          replace rx := rowKeep rx hn48
          clear mx0 mx1 mx2 mx3 mx4 mx5
          obtain ⟨mx0, mx1, mx2, mx3, mx4, mx5⟩ := cells6 rx
          replace rb := rowKeep rb hn48
          clear mb0 mb1 mb2 mb3 mb4 mb5
          obtain ⟨mb0, mb1, mb2, mb3, mb4, mb5⟩ := cells6 rb
          replace hB := below_later hB hn48 (Nat.le_refl _)
          clear hn48
          have re : (w29.alloc (.cells #[.slice Ae rd.length ce, .int .i64 0, .bool false, .int .i64 0, .bool false, .int .i64 0] 24)).heap[w29.heap.size]? = some (.cells #[.slice Ae rd.length ce, .int .i64 0, .bool false, .int .i64 0, .bool false, .int .i64 0] 24 (0, 0)) := heap_alloc_new _ _
          obtain ⟨me0, me1, me2, me3, me4, me5⟩ := cells6 re
          have s48 : w29.heap.size < (w29.alloc (.cells #[.slice Ae rd.length ce, .int .i64 0, .bool false, .int .i64 0, .bool false, .int .i64 0] 24)).heap.size := Nat.lt_of_lt_of_eq (Nat.lt_succ_self _) (World.size_alloc _ _).symm
          go_wp2_with fail
          clear k30 k31 k32 k33 k34 k35 k36 k37 k38 k39 k40 k41 k42 k43 k44 k45 k46 k47
          generalize (w29.alloc (.cells #[.slice Ae rd.length ce, .int .i64 0, .bool false, .int .i64 0, .bool false, .int .i64 0] 24)) = u48 at *
          have q := implAnswersValid_any At rd.length ct _ rd 0 false 0 false 0 u48 ot.sees (by omega)
          rw [HV.out] at q
          refine q.mono ?_
          clear q
          rintro e w49 ⟨rfl, b49⟩
          have s49 := b49.size
          replace ot := ot.below b49
          replace ox := ox.below b49
          replace ob := ob.below b49
          replace oe := oe.below b49
          replace rt := rowKeep rt b49
          clear mt0 mt1 mt2 mt3 mt4 mt5
          obtain ⟨mt0, mt1, mt2, mt3, mt4, mt5⟩ := cells6 rt
          replace rx := rowKeep rx b49
          clear mx0 mx1 mx2 mx3 mx4 mx5
          obtain ⟨mx0, mx1, mx2, mx3, mx4, mx5⟩ := cells6 rx
          replace rb := rowKeep rb b49
          clear mb0 mb1 mb2 mb3 mb4 mb5
          obtain ⟨mb0, mb1, mb2, mb3, mb4, mb5⟩ := cells6 rb
          replace re := rowKeep re b49
          clear me0 me1 me2 me3 me4 me5
          obtain ⟨me0, me1, me2, me3, me4, me5⟩ := cells6 re
          replace hB := below_later hB b49 (Nat.le_refl _)
          clear b49
          go_wp2_with fail
          refine (alive_any _).mono ?_
          rintro e w50 ⟨rfl, b50⟩
          have s50 := b50.size
          replace ot := ot.below b50
          replace ox := ox.below b50
          replace ob := ob.below b50
          replace oe := oe.below b50
          replace rt := rowKeep rt b50
          clear mt0 mt1 mt2 mt3 mt4 mt5
          obtain ⟨mt0, mt1, mt2, mt3, mt4, mt5⟩ := cells6 rt
          replace rx := rowKeep rx b50
          clear mx0 mx1 mx2 mx3 mx4 mx5
          obtain ⟨mx0, mx1, mx2, mx3, mx4, mx5⟩ := cells6 rx
          replace rb := rowKeep rb b50
          clear mb0 mb1 mb2 mb3 mb4 mb5
          obtain ⟨mb0, mb1, mb2, mb3, mb4, mb5⟩ := cells6 rb
          replace re := rowKeep re b50
          clear me0 me1 me2 me3 me4 me5
          obtain ⟨me0, me1, me2, me3, me4, me5⟩ := cells6 re
          replace hB := below_later hB b50 (Nat.le_refl _)
          clear b50
          go_wp2_with fail
          go_ret
          exact ⟨rfl, hB⟩
        exact AllReadyH.nil
      exact AllReadyH.nil
    · have HW := Lib.hid hw
      have i1 : 1 ≤ q := by omega
      have i2 : 16 < q := by have := (win_no _ _ _).1 hw; omega
      have hz : decide (q ≤ 16) = false := decide_eq_false (by omega)
      have hrd := anew_no q hw
      obtain ⟨rd, hrz⟩ : ∃ rd : List (Int × Bool), rd = [] := ⟨_, rfl⟩
      rw [hrd, ← hrz] at hl
      rw [← hrz] at hrd
      have HR := Lib.hid hrd
      have hv : aval ⟨rd, 0, false, 0, false, 0⟩ = false := by rw [hrz]; exact az_val
      have haz : az = ⟨rd, 0, false, 0, false, 0⟩ := by rw [hrz]; rfl
      obtain ⟨h1, h2, h3⟩ := atake_no _ hv
      obtain ⟨h4, h5⟩ := apost_no _ 9 hv
      rw [haz] at h1 h4
      have H1 := Lib.hid h1
      have H2 := Lib.hid h2
      have H3 := Lib.hid h3
      have H4 := Lib.hid h4
      have H5 := Lib.hid h5
      have HV := Lib.hid hv
      clear hrd hrz haz hw hv h1 h2 h3 h4 h5
      go_wp2_with fail
      have q := implNewAnswers_any q w1
      refine q.mono ?_
      clear q
      rintro e w2 ⟨At, ct, rfl, ot, b2⟩
      simp only [HR.out, HW.out, ansR]
      simp only [HR.out] at ot
      have s2 := b2.size
      replace hB := below_later hB b2 (Nat.le_refl _)
      clear b2
      have hn3 := below_new w2 (.cells #[.slice At rd.length ct, .int .i64 0, .bool false, .int .i64 0, .bool false, .int .i64 0] 24)
      replace ot := ot.below hn3
      replace hB := below_later hB hn3 (Nat.le_refl _)
      clear hn3
      have rt : (w2.alloc (.cells #[.slice At rd.length ct, .int .i64 0, .bool false, .int .i64 0, .bool false, .int .i64 0] 24)).heap[w2.heap.size]? = some (.cells #[.slice At rd.length ct, .int .i64 0, .bool false, .int .i64 0, .bool false, .int .i64 0] 24 (0, 0)) := heap_alloc_new _ _
      obtain ⟨mt0, mt1, mt2, mt3, mt4, mt5⟩ := cells6 rt
      have s3 : w2.heap.size < (w2.alloc (.cells #[.slice At rd.length ct, .int .i64 0, .bool false, .int .i64 0, .bool false, .int .i64 0] 24)).heap.size := Nat.lt_of_lt_of_eq (Nat.lt_succ_self _) (World.size_alloc _ _).symm
      go_wp2_with fail
      generalize (w2.alloc (.cells #[.slice At rd.length ct, .int .i64 0, .bool false, .int .i64 0, .bool false, .int .i64 0] 24)) = u3 at *
      have hn4 : Below u3.heap.size u3 u3.drew := below_drewN (Below.refl _ _) 1
      have s4 : u3.heap.size ≤ u3.drew.heap.size := Nat.le_refl _
      replace ot := ot.below hn4
      replace rt := rowKeep rt hn4
      clear mt0 mt1 mt2 mt3 mt4 mt5
      obtain ⟨mt0, mt1, mt2, mt3, mt4, mt5⟩ := cells6 rt
      replace hB := below_later hB hn4 (Nat.le_refl _)
      clear hn4
      refine wp_region_noPanic ?_
      refine wp_region_held_drew (S := fun w' => w'.cell? ⟨w2.heap.size, 0, none⟩ = some (.slice At rd.length ct) ∧ w'.cell? ⟨w2.heap.size, 1, none⟩ = some (.int .i64 0) ∧ w'.cell? ⟨w2.heap.size, 2, none⟩ = some (.bool false) ∧ w'.cell? ⟨w2.heap.size, 3, none⟩ = some (.int .i64 0) ∧ w'.cell? ⟨w2.heap.size, 4, none⟩ = some (.bool false) ∧ w'.cell? ⟨w2.heap.size, 5, none⟩ = some (.int .i64 0)) (by kernel_rfl) ⟨mt0, mt1, mt2, mt3, mt4, mt5⟩ (fun hHeld => ?_)
      generalize u3.drew = u4 at *
      refine wpAnyH_take (i := 0) (v := ?_) rfl (by kernel_rfl) (by kernel_rfl) (by kernel_rfl) (fun _ _ _ h => h) (Or.inl ⟨by rfl, ?_⟩) (by assumption) ?_
      rotate_left
      · (intro wz hSw; (try dsimp only at hSw); go_simp; try with_reducible rfl)
      simp only [Act.put, List.getElem_toArray, List.getElem_cons_zero, List.getElem_cons_succ, List.setIfInBounds_toArray, List.set_cons_zero, List.set_cons_succ]
      refine wpAnyH_take (i := 1) (v := ?_) rfl (by kernel_rfl) (by kernel_rfl) (by kernel_rfl) (fun _ _ _ h => h) (Or.inl ⟨by rfl, ?_⟩) (by assumption) ?_
      rotate_left
      · (intro wz hSw; (try dsimp only at hSw); go_simp; try with_reducible rfl)
      simp only [Act.put, List.getElem_toArray, List.getElem_cons_zero, List.getElem_cons_succ, List.setIfInBounds_toArray, List.set_cons_zero, List.set_cons_succ]
      refine wpAnyH_ready (rs := [2]) (by kernel_rfl) (by simp) ?_
      refine AllReadyH.cons rfl (fun K hK => ?_) ?_
      · go_simp
        have q := specNewAnswers_any q u4
        refine q.mono ?_
        clear q
        rintro e w5 ⟨Ay, cy, rfl, oy, b5⟩
        simp only [HR.out, HW.out, ansR]
        simp only [HR.out] at oy
        have s5 := b5.size
        replace ot := ot.below b5
        replace rt := rowKeep rt b5
        clear mt0 mt1 mt2 mt3 mt4 mt5
        obtain ⟨mt0, mt1, mt2, mt3, mt4, mt5⟩ := cells6 rt
        replace hB := below_later hB b5 (Nat.le_refl _)
        clear b5
        refine hK.out _ _ ⟨mt0, mt1, mt2, mt3, mt4, mt5⟩ (fun hHeld => ?_)
        clear hK K
        try simp only [Act.put, List.getElem_toArray, List.getElem_cons_zero, List.getElem_cons_succ, List.setIfInBounds_toArray, List.set_cons_zero, List.set_cons_succ]
        refine wpAnyH_ready (rs := [3]) (by kernel_rfl) (by simp) ?_
        refine AllReadyH.cons rfl (fun K hK => ?_) ?_
        · go_simp
          refine (sameAnswers_t _ _ _ _ _ _ _ _ _ _ _ _ _ _ _ ot.sees oy.sees (by omega) (by omega)).mono ?_
          rintro e w6 ⟨rfl, b6⟩
          have s6 := b6.size
          replace ot := ot.below b6
          replace oy := oy.below b6
          replace rt := rowKeep rt b6
          clear mt0 mt1 mt2 mt3 mt4 mt5
          obtain ⟨mt0, mt1, mt2, mt3, mt4, mt5⟩ := cells6 rt
          replace hB := below_later hB b6 (Nat.le_refl _)
          clear b6
          refine hK.out _ _ ⟨mt0, mt1, mt2, mt3, mt4, mt5⟩ (fun hHeld => ?_)
          clear hK K
          try simp only [Act.put, List.getElem_toArray, List.getElem_cons_zero, List.getElem_cons_succ, List.setIfInBounds_toArray, List.set_cons_zero, List.set_cons_succ]
          refine wpAnyH_take (i := 4) (v := ?_) rfl (by kernel_rfl) (by kernel_rfl) (by kernel_rfl) (fun _ _ _ h => h) (Or.inl ⟨by rfl, ?_⟩) (by assumption) ?_
          rotate_left
          · (intro wz hSw; (try dsimp only at hSw); go_simp; try with_reducible rfl)
          simp only [Act.put, List.getElem_toArray, List.getElem_cons_zero, List.getElem_cons_succ, List.setIfInBounds_toArray, List.set_cons_zero, List.set_cons_succ]
          refine wpAnyH_done (by kernel_rfl) ?_ _
          refine NoPanic.normal ?_
          clear oy
          go_wp2_with fail
          have q := implTakeAnswer_any At rd.length ct _ rd 0 false 0 false 0 w6 ot.sees (by omega)
          refine q.mono ?_
          clear q
          rintro e w7 ⟨Ax, cx, rfl, ox, b7⟩
          simp only [H1.out, H2.out, H3.out, takeV, ansW, ansR]
          simp only [H1.out] at ox
          have s7 := b7.size
          replace ot := ot.below b7
          replace rt := rowKeep rt b7
          clear mt0 mt1 mt2 mt3 mt4 mt5
          obtain ⟨mt0, mt1, mt2, mt3, mt4, mt5⟩ := cells6 rt
          replace hB := below_later hB b7 (Nat.le_refl _)
          clear b7
          have k8 := mt0
          have k9 := mt1
          have k10 := mt2
          have k11 := mt3
          have k12 := mt4
          have k13 := mt5
          have hn14 := below_new w7 (.cells #[.slice Ax rd.length cx, .int .i64 0, .bool false, .int .i64 0, .bool false, .int .i64 0] 24)
          replace ot := ot.below hn14
          replace ox := ox.below hn14
          replace rt := rowKeep rt hn14
          clear mt0 mt1 mt2 mt3 mt4 mt5
          obtain ⟨mt0, mt1, mt2, mt3, mt4, mt5⟩ := cells6 rt
          replace hB := below_later hB hn14 (Nat.le_refl _)
          clear hn14
          have rx : (w7.alloc (.cells #[.slice Ax rd.length cx, .int .i64 0, .bool false, .int .i64 0, .bool false, .int .i64 0] 24)).heap[w7.heap.size]? = some (.cells #[.slice Ax rd.length cx, .int .i64 0, .bool false, .int .i64 0, .bool false, .int .i64 0] 24 (0, 0)) := heap_alloc_new _ _
          obtain ⟨mx0, mx1, mx2, mx3, mx4, mx5⟩ := cells6 rx
          have s14 : w7.heap.size < (w7.alloc (.cells #[.slice Ax rd.length cx, .int .i64 0, .bool false, .int .i64 0, .bool false, .int .i64 0] 24)).heap.size := Nat.lt_of_lt_of_eq (Nat.lt_succ_self _) (World.size_alloc _ _).symm
          go_wp2_with fail
          clear k8 k9 k10 k11 k12 k13
          generalize (w7.alloc (.cells #[.slice Ax rd.length cx, .int .i64 0, .bool false, .int .i64 0, .bool false, .int .i64 0] 24)) = u14 at *
          have q := implPostAnswer_any At rd.length ct _ rd 0 false 0 false 0 9 u14 ot.sees (by omega)
          refine q.mono ?_
          clear q
          rintro e w15 ⟨Ab, cb, rfl, ob, b15⟩
          simp only [H4.out, H5.out, postV, ansW, ansR]
          simp only [H4.out] at ob
          have s15 := b15.size
          replace ot := ot.below b15
          replace ox := ox.below b15
          replace rt := rowKeep rt b15
          clear mt0 mt1 mt2 mt3 mt4 mt5
          obtain ⟨mt0, mt1, mt2, mt3, mt4, mt5⟩ := cells6 rt
          replace rx := rowKeep rx b15
          clear mx0 mx1 mx2 mx3 mx4 mx5
          obtain ⟨mx0, mx1, mx2, mx3, mx4, mx5⟩ := cells6 rx
          replace hB := below_later hB b15 (Nat.le_refl _)
          clear b15
          have k16 := mt0
          have k17 := mt1
          have k18 := mt2
          have k19 := mt3
          have k20 := mt4
          have k21 := mt5
          have k22 := mx0
          have k23 := mx1
          have k24 := mx2
          have k25 := mx3
          have k26 := mx4
          have k27 := mx5
          have hn28 := below_new w15 (.cells #[.slice Ab rd.length cb, .int .i64 0, .bool false, .int .i64 0, .bool false, .int .i64 0] 24)
          replace ot := ot.below hn28
          replace ox := ox.below hn28
          replace ob := ob.below hn28
          replace rt := rowKeep rt hn28
          clear mt0 mt1 mt2 mt3 mt4 mt5
          obtain ⟨mt0, mt1, mt2, mt3, mt4, mt5⟩ := cells6 rt
          replace rx := rowKeep rx hn28
          clear mx0 mx1 mx2 mx3 mx4 mx5
          obtain ⟨mx0, mx1, mx2, mx3, mx4, mx5⟩ := cells6 rx
          replace hB := below_later hB hn28 (Nat.le_refl _)
          clear hn28
          have rb : (w15.alloc (.cells #[.slice Ab rd.length cb, .int .i64 0, .bool false, .int .i64 0, .bool false, .int .i64 0] 24)).heap[w15.heap.size]? = some (.cells #[.slice Ab rd.length cb, .int .i64 0, .bool false, .int .i64 0, .bool false, .int .i64 0] 24 (0, 0)) := heap_alloc_new _ _
          obtain ⟨mb0, mb1, mb2, mb3, mb4, mb5⟩ := cells6 rb
          have s28 : w15.heap.size < (w15.alloc (.cells #[.slice Ab rd.length cb, .int .i64 0, .bool false, .int .i64 0, .bool false, .int .i64 0] 24)).heap.size := Nat.lt_of_lt_of_eq (Nat.lt_succ_self _) (World.size_alloc _ _).symm
          go_wp2_with fail
          clear k16 k17 k18 k19 k20 k21 k22 k23 k24 k25 k26 k27
          generalize (w15.alloc (.cells #[.slice Ab rd.length cb, .int .i64 0, .bool false, .int .i64 0, .bool false, .int .i64 0] 24)) = u28 at *
          have q := implTakeAnswer_any Ab rd.length cb _ rd 0 false 0 false 0 u28 ob.sees (by omega)
          refine q.mono ?_
          clear q
          rintro e w29 ⟨Ae, ce, rfl, oe, b29⟩
          simp only [H1.out, H2.out, H3.out, takeV, ansW, ansR]
          simp only [H1.out] at oe
          have s29 := b29.size
          replace ot := ot.below b29
          replace ox := ox.below b29
          replace ob := ob.below b29
          replace rt := rowKeep rt b29
          clear mt0 mt1 mt2 mt3 mt4 mt5
          obtain ⟨mt0, mt1, mt2, mt3, mt4, mt5⟩ := cells6 rt
          replace rx := rowKeep rx b29
          clear mx0 mx1 mx2 mx3 mx4 mx5
          obtain ⟨mx0, mx1, mx2, mx3, mx4, mx5⟩ := cells6 rx
          replace rb := rowKeep rb b29
          clear mb0 mb1 mb2 mb3 mb4 mb5
          obtain ⟨mb0, mb1, mb2, mb3, mb4, mb5⟩ := cells6 rb
          replace hB := below_later hB b29 (Nat.le_refl _)
          clear b29
          have k30 := mt0
          have k31 := mt1
          have k32 := mt2
          have k33 := mt3
          have k34 := mt4
          have k35 := mt5
          have k36 := mx0
          have k37 := mx1
          have k38 := mx2
          have k39 := mx3
          have k40 := mx4
          have k41 := mx5
          have k42 := mb0
          have k43 := mb1
          have k44 := mb2
          have k45 := mb3
          have k46 := mb4
          have k47 := mb5
          have hn48 := below_new w29 (.cells #[.slice Ae rd.length ce, .int .i64 0, .bool false, .int .i64 0, .bool false, .int .i64 0] 24)
          replace ot := ot.below hn48
          replace ox := ox.below hn48
          replace ob := ob.below hn48
          replace oe := oe.below hn48
          replace rt := rowKeep rt hn48
          clear mt0 mt1 mt2 mt3 mt4 mt5
          obtain ⟨mt0, mt1, mt2, mt3, mt4, mt5⟩ := cells6 rt
          replace rx := rowKeep rx hn48
          clear mx0 mx1 mx2 mx3 mx4 mx5
          obtain ⟨mx0, mx1, mx2, mx3, mx4, mx5⟩ := cells6 rx
          replace rb := rowKeep rb hn48
          clear mb0 mb1 mb2 mb3 mb4 mb5
          obtain ⟨mb0, mb1, mb2, mb3, mb4, mb5⟩ := cells6 rb
          replace hB := below_later hB hn48 (Nat.le_refl _)
          clear hn48
          have re : (w29.alloc (.cells #[.slice Ae rd.length ce, .int .i64 0, .bool false, .int .i64 0, .bool false, .int .i64 0] 24)).heap[w29.heap.size]? = some (.cells #[.slice Ae rd.length ce, .int .i64 0, .bool false, .int .i64 0, .bool false, .int .i64 0] 24 (0, 0)) := heap_alloc_new _ _
          obtain ⟨me0, me1, me2, me3, me4, me5⟩ := cells6 re
          have s48 : w29.heap.size < (w29.alloc (.cells #[.slice Ae rd.length ce, .int .i64 0, .bool false, .int .i64 0, .bool false, .int .i64 0] 24)).heap.size := Nat.lt_of_lt_of_eq (Nat.lt_succ_self _) (World.size_alloc _ _).symm
          go_wp2_with fail
          clear k30 k31 k32 k33 k34 k35 k36 k37 k38 k39 k40 k41 k42 k43 k44 k45 k46 k47
          generalize (w29.alloc (.cells #[.slice Ae rd.length ce, .int .i64 0, .bool false, .int .i64 0, .bool false, .int .i64 0] 24)) = u48 at *
          have q := implAnswersValid_any At rd.length ct _ rd 0 false 0 false 0 u48 ot.sees (by omega)
          rw [HV.out] at q
          refine q.mono ?_
          clear q
          rintro e w49 ⟨rfl, b49⟩
          have s49 := b49.size
          replace ot := ot.below b49
          replace ox := ox.below b49
          replace ob := ob.below b49
          replace oe := oe.below b49
          replace rt := rowKeep rt b49
          clear mt0 mt1 mt2 mt3 mt4 mt5
          obtain ⟨mt0, mt1, mt2, mt3, mt4, mt5⟩ := cells6 rt
          replace rx := rowKeep rx b49
          clear mx0 mx1 mx2 mx3 mx4 mx5
          obtain ⟨mx0, mx1, mx2, mx3, mx4, mx5⟩ := cells6 rx
          replace rb := rowKeep rb b49
          clear mb0 mb1 mb2 mb3 mb4 mb5
          obtain ⟨mb0, mb1, mb2, mb3, mb4, mb5⟩ := cells6 rb
          replace re := rowKeep re b49
          clear me0 me1 me2 me3 me4 me5
          obtain ⟨me0, me1, me2, me3, me4, me5⟩ := cells6 re
          replace hB := below_later hB b49 (Nat.le_refl _)
          clear b49
          go_wp2_with fail
          refine (alive_any _).mono ?_
          rintro e w50 ⟨rfl, b50⟩
          have s50 := b50.size
          replace ot := ot.below b50
          replace ox := ox.below b50
          replace ob := ob.below b50
          replace oe := oe.below b50
          replace rt := rowKeep rt b50
          clear mt0 mt1 mt2 mt3 mt4 mt5
          obtain ⟨mt0, mt1, mt2, mt3, mt4, mt5⟩ := cells6 rt
          replace rx := rowKeep rx b50
          clear mx0 mx1 mx2 mx3 mx4 mx5
          obtain ⟨mx0, mx1, mx2, mx3, mx4, mx5⟩ := cells6 rx
          replace rb := rowKeep rb b50
          clear mb0 mb1 mb2 mb3 mb4 mb5
          obtain ⟨mb0, mb1, mb2, mb3, mb4, mb5⟩ := cells6 rb
          replace re := rowKeep re b50
          clear me0 me1 me2 me3 me4 me5
          obtain ⟨me0, me1, me2, me3, me4, me5⟩ := cells6 re
          replace hB := below_later hB b50 (Nat.le_refl _)
          clear b50
          go_wp2_with fail
          go_ret
          exact ⟨rfl, hB⟩
        exact AllReadyH.nil
      exact AllReadyH.nil
  · have HW := Lib.hid hw
    have hq2 := (win_iff _ _ _).1 hw
    have i1 : (1 : Int) ≤ q := hq2.1
    have i2 : q ≤ 16 := hq2.2
    clear hq2
    obtain ⟨rd, hrd⟩ : ∃ rd, (anew q).ents = rd := ⟨_, rfl⟩
    rw [hrd] at hl
    obtain ⟨⟨h1, h2, h3⟩, hv, d2, bps, bpp, btk, btp, bpd, ⟨h4, h5⟩, hl2, h6, h7⟩ := new_post q hw rd hrd
    have HR := Lib.hid hrd
    have H1 := Lib.hid h1
    have H2 := Lib.hid h2
    have H3 := Lib.hid h3
    have H4 := Lib.hid h4
    have H5 := Lib.hid h5
    have H6 := Lib.hid h6
    have H7 := Lib.hid h7
    have HV := Lib.hid hv
    clear hrd hw hv h1 h2 h3 h4 h5 h6 h7
    obtain ⟨ed, eps, epp, etk, etp, epd, he⟩ : ∃ ed eps epp etk etp epd, atake ⟨d2, bps, bpp, btk, btp, bpd⟩ = ⟨ed, eps, epp, etk, etp, epd⟩ := ⟨_, _, _, _, _, _, rfl⟩
    have HE := Lib.hid he
    clear he
    go_wp2_with fail
    have q := implNewAnswers_any q w1
    refine q.mono ?_
    clear q
    rintro e w2 ⟨At, ct, rfl, ot, b2⟩
    simp only [HR.out, HW.out, ansR]
    simp only [HR.out] at ot
    have s2 := b2.size
    replace hB := below_later hB b2 (Nat.le_refl _)
    clear b2
    have hn3 := below_new w2 (.cells #[.slice At rd.length ct, .int .i64 0, .bool true, .int .i64 0, .bool true, .int .i64 0] 24)
    replace ot := ot.below hn3
    replace hB := below_later hB hn3 (Nat.le_refl _)
    clear hn3
    have rt : (w2.alloc (.cells #[.slice At rd.length ct, .int .i64 0, .bool true, .int .i64 0, .bool true, .int .i64 0] 24)).heap[w2.heap.size]? = some (.cells #[.slice At rd.length ct, .int .i64 0, .bool true, .int .i64 0, .bool true, .int .i64 0] 24 (0, 0)) := heap_alloc_new _ _
    obtain ⟨mt0, mt1, mt2, mt3, mt4, mt5⟩ := cells6 rt
    have s3 : w2.heap.size < (w2.alloc (.cells #[.slice At rd.length ct, .int .i64 0, .bool true, .int .i64 0, .bool true, .int .i64 0] 24)).heap.size := Nat.lt_of_lt_of_eq (Nat.lt_succ_self _) (World.size_alloc _ _).symm
    go_wp2_with fail
    generalize (w2.alloc (.cells #[.slice At rd.length ct, .int .i64 0, .bool true, .int .i64 0, .bool true, .int .i64 0] 24)) = u3 at *
    have hn4 : Below u3.heap.size u3 u3.drew := below_drewN (Below.refl _ _) 1
    have s4 : u3.heap.size ≤ u3.drew.heap.size := Nat.le_refl _
    replace ot := ot.below hn4
    replace rt := rowKeep rt hn4
    clear mt0 mt1 mt2 mt3 mt4 mt5
    obtain ⟨mt0, mt1, mt2, mt3, mt4, mt5⟩ := cells6 rt
    replace hB := below_later hB hn4 (Nat.le_refl _)
    clear hn4
    refine wp_region_noPanic ?_
    refine wp_region_held_drew (S := fun w' => w'.cell? ⟨w2.heap.size, 0, none⟩ = some (.slice At rd.length ct) ∧ w'.cell? ⟨w2.heap.size, 1, none⟩ = some (.int .i64 0) ∧ w'.cell? ⟨w2.heap.size, 2, none⟩ = some (.bool true) ∧ w'.cell? ⟨w2.heap.size, 3, none⟩ = some (.int .i64 0) ∧ w'.cell? ⟨w2.heap.size, 4, none⟩ = some (.bool true) ∧ w'.cell? ⟨w2.heap.size, 5, none⟩ = some (.int .i64 0)) (by kernel_rfl) ⟨mt0, mt1, mt2, mt3, mt4, mt5⟩ (fun hHeld => ?_)
    generalize u3.drew = u4 at *
    refine wpAnyH_take (i := 0) (v := ?_) rfl (by kernel_rfl) (by kernel_rfl) (by kernel_rfl) (fun _ _ _ h => h) (Or.inl ⟨by rfl, ?_⟩) (by assumption) ?_
    rotate_left
    · (intro wz hSw; (try dsimp only at hSw); go_simp; try with_reducible rfl)
    simp only [Act.put, List.getElem_toArray, List.getElem_cons_zero, List.getElem_cons_succ, List.setIfInBounds_toArray, List.set_cons_zero, List.set_cons_succ]
    refine wpAnyH_take (i := 1) (v := ?_) rfl (by kernel_rfl) (by kernel_rfl) (by kernel_rfl) (fun _ _ _ h => h) (Or.inl ⟨by rfl, ?_⟩) (by assumption) ?_
    rotate_left
    · (intro wz hSw; (try dsimp only at hSw); go_simp; try with_reducible rfl)
    simp only [Act.put, List.getElem_toArray, List.getElem_cons_zero, List.getElem_cons_succ, List.setIfInBounds_toArray, List.set_cons_zero, List.set_cons_succ]
    refine wpAnyH_ready (rs := [2]) (by kernel_rfl) (by simp) ?_
    refine AllReadyH.cons rfl (fun K hK => ?_) ?_
    · go_simp
      have q := specNewAnswers_any q u4
      refine q.mono ?_
      clear q
      rintro e w5 ⟨Ay, cy, rfl, oy, b5⟩
      simp only [HR.out, HW.out, ansR]
      simp only [HR.out] at oy
      have s5 := b5.size
      replace ot := ot.below b5
      replace rt := rowKeep rt b5
      clear mt0 mt1 mt2 mt3 mt4 mt5
      obtain ⟨mt0, mt1, mt2, mt3, mt4, mt5⟩ := cells6 rt
      replace hB := below_later hB b5 (Nat.le_refl _)
      clear b5
      refine hK.out _ _ ⟨mt0, mt1, mt2, mt3, mt4, mt5⟩ (fun hHeld => ?_)
      clear hK K
      try simp only [Act.put, List.getElem_toArray, List.getElem_cons_zero, List.getElem_cons_succ, List.setIfInBounds_toArray, List.set_cons_zero, List.set_cons_succ]
      refine wpAnyH_ready (rs := [3]) (by kernel_rfl) (by simp) ?_
      refine AllReadyH.cons rfl (fun K hK => ?_) ?_
      · go_simp
        refine (sameAnswers_t _ _ _ _ _ _ _ _ _ _ _ _ _ _ _ ot.sees oy.sees (by omega) (by omega)).mono ?_
        rintro e w6 ⟨rfl, b6⟩
        have s6 := b6.size
        replace ot := ot.below b6
        replace oy := oy.below b6
        replace rt := rowKeep rt b6
        clear mt0 mt1 mt2 mt3 mt4 mt5
        obtain ⟨mt0, mt1, mt2, mt3, mt4, mt5⟩ := cells6 rt
        replace hB := below_later hB b6 (Nat.le_refl _)
        clear b6
        refine hK.out _ _ ⟨mt0, mt1, mt2, mt3, mt4, mt5⟩ (fun hHeld => ?_)
        clear hK K
        try simp only [Act.put, List.getElem_toArray, List.getElem_cons_zero, List.getElem_cons_succ, List.setIfInBounds_toArray, List.set_cons_zero, List.set_cons_succ]
        refine wpAnyH_take (i := 4) (v := ?_) rfl (by kernel_rfl) (by kernel_rfl) (by kernel_rfl) (fun _ _ _ h => h) (Or.inl ⟨by rfl, ?_⟩) (by assumption) ?_
        rotate_left
        · (intro wz hSw; (try dsimp only at hSw); go_simp; try with_reducible rfl)
        simp only [Act.put, List.getElem_toArray, List.getElem_cons_zero, List.getElem_cons_succ, List.setIfInBounds_toArray, List.set_cons_zero, List.set_cons_succ]
        refine wpAnyH_done (by kernel_rfl) ?_ _
        refine NoPanic.normal ?_
        clear oy
        go_wp2_with fail
        have q := implTakeAnswer_any At rd.length ct _ rd 0 true 0 true 0 w6 ot.sees (by omega)
        refine q.mono ?_
        clear q
        rintro e w7 ⟨Ax, cx, rfl, ox, b7⟩
        simp only [H1.out, H2.out, H3.out, takeV, ansW, ansR]
        simp only [H1.out] at ox
        have s7 := b7.size
        replace ot := ot.below b7
        replace rt := rowKeep rt b7
        clear mt0 mt1 mt2 mt3 mt4 mt5
        obtain ⟨mt0, mt1, mt2, mt3, mt4, mt5⟩ := cells6 rt
        replace hB := below_later hB b7 (Nat.le_refl _)
        clear b7
        have k8 := mt0
        have k9 := mt1
        have k10 := mt2
        have k11 := mt3
        have k12 := mt4
        have k13 := mt5
        have hn14 := below_new w7 (.cells #[.slice Ax rd.length cx, .int .i64 0, .bool true, .int .i64 0, .bool true, .int .i64 0] 24)
        replace ot := ot.below hn14
        replace ox := ox.below hn14
        replace rt := rowKeep rt hn14
        clear mt0 mt1 mt2 mt3 mt4 mt5
        obtain ⟨mt0, mt1, mt2, mt3, mt4, mt5⟩ := cells6 rt
        replace hB := below_later hB hn14 (Nat.le_refl _)
        clear hn14
        have rx : (w7.alloc (.cells #[.slice Ax rd.length cx, .int .i64 0, .bool true, .int .i64 0, .bool true, .int .i64 0] 24)).heap[w7.heap.size]? = some (.cells #[.slice Ax rd.length cx, .int .i64 0, .bool true, .int .i64 0, .bool true, .int .i64 0] 24 (0, 0)) := heap_alloc_new _ _
        obtain ⟨mx0, mx1, mx2, mx3, mx4, mx5⟩ := cells6 rx
        have s14 : w7.heap.size < (w7.alloc (.cells #[.slice Ax rd.length cx, .int .i64 0, .bool true, .int .i64 0, .bool true, .int .i64 0] 24)).heap.size := Nat.lt_of_lt_of_eq (Nat.lt_succ_self _) (World.size_alloc _ _).symm
        go_wp2_with fail
        clear k8 k9 k10 k11 k12 k13
        generalize (w7.alloc (.cells #[.slice Ax rd.length cx, .int .i64 0, .bool true, .int .i64 0, .bool true, .int .i64 0] 24)) = u14 at *
        have q := implPostAnswer_any At rd.length ct _ rd 0 true 0 true 0 9 u14 ot.sees (by omega)
        refine q.mono ?_
        clear q
        rintro e w15 ⟨Ab, cb, rfl, ob, b15⟩
        simp only [H4.out, H5.out, postV, ansW, ansR]
        simp only [H4.out] at ob
        have s15 := b15.size
        replace ot := ot.below b15
        replace ox := ox.below b15
        replace rt := rowKeep rt b15
        clear mt0 mt1 mt2 mt3 mt4 mt5
        obtain ⟨mt0, mt1, mt2, mt3, mt4, mt5⟩ := cells6 rt
        replace rx := rowKeep rx b15
        clear mx0 mx1 mx2 mx3 mx4 mx5
        obtain ⟨mx0, mx1, mx2, mx3, mx4, mx5⟩ := cells6 rx
        replace hB := below_later hB b15 (Nat.le_refl _)
        clear b15
        have k16 := mt0
        have k17 := mt1
        have k18 := mt2
        have k19 := mt3
        have k20 := mt4
        have k21 := mt5
        have k22 := mx0
        have k23 := mx1
        have k24 := mx2
        have k25 := mx3
        have k26 := mx4
        have k27 := mx5
        have hn28 := below_new w15 (.cells #[.slice Ab d2.length cb, .int .i64 bps, .bool bpp, .int .i64 btk, .bool btp, .int .i64 bpd] 24)
        replace ot := ot.below hn28
        replace ox := ox.below hn28
        replace ob := ob.below hn28
        replace rt := rowKeep rt hn28
        clear mt0 mt1 mt2 mt3 mt4 mt5
        obtain ⟨mt0, mt1, mt2, mt3, mt4, mt5⟩ := cells6 rt
        replace rx := rowKeep rx hn28
        clear mx0 mx1 mx2 mx3 mx4 mx5
        obtain ⟨mx0, mx1, mx2, mx3, mx4, mx5⟩ := cells6 rx
        replace hB := below_later hB hn28 (Nat.le_refl _)
        clear hn28
        have rb : (w15.alloc (.cells #[.slice Ab d2.length cb, .int .i64 bps, .bool bpp, .int .i64 btk, .bool btp, .int .i64 bpd] 24)).heap[w15.heap.size]? = some (.cells #[.slice Ab d2.length cb, .int .i64 bps, .bool bpp, .int .i64 btk, .bool btp, .int .i64 bpd] 24 (0, 0)) := heap_alloc_new _ _
        obtain ⟨mb0, mb1, mb2, mb3, mb4, mb5⟩ := cells6 rb
        have s28 : w15.heap.size < (w15.alloc (.cells #[.slice Ab d2.length cb, .int .i64 bps, .bool bpp, .int .i64 btk, .bool btp, .int .i64 bpd] 24)).heap.size := Nat.lt_of_lt_of_eq (Nat.lt_succ_self _) (World.size_alloc _ _).symm
        go_wp2_with fail
        clear k16 k17 k18 k19 k20 k21 k22 k23 k24 k25 k26 k27
        generalize (w15.alloc (.cells #[.slice Ab d2.length cb, .int .i64 bps, .bool bpp, .int .i64 btk, .bool btp, .int .i64 bpd] 24)) = u28 at *
        have q := implTakeAnswer_any Ab d2.length cb _ d2 bps bpp btk btp bpd u28 ob.sees (by omega)
        refine q.mono ?_
        clear q
        rintro e w29 ⟨Ae, ce, rfl, oe, b29⟩
        simp only [HE.out, H6.out, H7.out, takeV, ansW, ansR]
        simp only [HE.out] at oe
        have s29 := b29.size
        replace ot := ot.below b29
        replace ox := ox.below b29
        replace ob := ob.below b29
        replace rt := rowKeep rt b29
        clear mt0 mt1 mt2 mt3 mt4 mt5
        obtain ⟨mt0, mt1, mt2, mt3, mt4, mt5⟩ := cells6 rt
        replace rx := rowKeep rx b29
        clear mx0 mx1 mx2 mx3 mx4 mx5
        obtain ⟨mx0, mx1, mx2, mx3, mx4, mx5⟩ := cells6 rx
        replace rb := rowKeep rb b29
        clear mb0 mb1 mb2 mb3 mb4 mb5
        obtain ⟨mb0, mb1, mb2, mb3, mb4, mb5⟩ := cells6 rb
        replace hB := below_later hB b29 (Nat.le_refl _)
        clear b29
        have k30 := mt0
        have k31 := mt1
        have k32 := mt2
        have k33 := mt3
        have k34 := mt4
        have k35 := mt5
        have k36 := mx0
        have k37 := mx1
        have k38 := mx2
        have k39 := mx3
        have k40 := mx4
        have k41 := mx5
        have k42 := mb0
        have k43 := mb1
        have k44 := mb2
        have k45 := mb3
        have k46 := mb4
        have k47 := mb5
        have hn48 := below_new w29 (.cells #[.slice Ae ed.length ce, .int .i64 eps, .bool epp, .int .i64 etk, .bool etp, .int .i64 epd] 24)
        replace ot := ot.below hn48
        replace ox := ox.below hn48
        replace ob := ob.below hn48
        replace oe := oe.below hn48
        replace rt := rowKeep rt hn48
        clear mt0 mt1 mt2 mt3 mt4 mt5
        obtain ⟨mt0, mt1, mt2, mt3, mt4, mt5⟩ := cells6 rt
        replace rx := rowKeep rx hn48
        clear mx0 mx1 mx2 mx3 mx4 mx5
        obtain ⟨mx0, mx1, mx2, mx3, mx4, mx5⟩ := cells6 rx
        replace rb := rowKeep rb hn48
        clear mb0 mb1 mb2 mb3 mb4 mb5
        obtain ⟨mb0, mb1, mb2, mb3, mb4, mb5⟩ := cells6 rb
        replace hB := below_later hB hn48 (Nat.le_refl _)
        clear hn48
        have re : (w29.alloc (.cells #[.slice Ae ed.length ce, .int .i64 eps, .bool epp, .int .i64 etk, .bool etp, .int .i64 epd] 24)).heap[w29.heap.size]? = some (.cells #[.slice Ae ed.length ce, .int .i64 eps, .bool epp, .int .i64 etk, .bool etp, .int .i64 epd] 24 (0, 0)) := heap_alloc_new _ _
        obtain ⟨me0, me1, me2, me3, me4, me5⟩ := cells6 re
        have s48 : w29.heap.size < (w29.alloc (.cells #[.slice Ae ed.length ce, .int .i64 eps, .bool epp, .int .i64 etk, .bool etp, .int .i64 epd] 24)).heap.size := Nat.lt_of_lt_of_eq (Nat.lt_succ_self _) (World.size_alloc _ _).symm
        go_wp2_with fail
        clear k30 k31 k32 k33 k34 k35 k36 k37 k38 k39 k40 k41 k42 k43 k44 k45 k46 k47
        generalize (w29.alloc (.cells #[.slice Ae ed.length ce, .int .i64 eps, .bool epp, .int .i64 etk, .bool etp, .int .i64 epd] 24)) = u48 at *
        have q := implAnswersValid_any At rd.length ct _ rd 0 true 0 true 0 u48 ot.sees (by omega)
        rw [HV.out] at q
        refine q.mono ?_
        clear q
        rintro e w49 ⟨rfl, b49⟩
        have s49 := b49.size
        replace ot := ot.below b49
        replace ox := ox.below b49
        replace ob := ob.below b49
        replace oe := oe.below b49
        replace rt := rowKeep rt b49
        clear mt0 mt1 mt2 mt3 mt4 mt5
        obtain ⟨mt0, mt1, mt2, mt3, mt4, mt5⟩ := cells6 rt
        replace rx := rowKeep rx b49
        clear mx0 mx1 mx2 mx3 mx4 mx5
        obtain ⟨mx0, mx1, mx2, mx3, mx4, mx5⟩ := cells6 rx
        replace rb := rowKeep rb b49
        clear mb0 mb1 mb2 mb3 mb4 mb5
        obtain ⟨mb0, mb1, mb2, mb3, mb4, mb5⟩ := cells6 rb
        replace re := rowKeep re b49
        clear me0 me1 me2 me3 me4 me5
        obtain ⟨me0, me1, me2, me3, me4, me5⟩ := cells6 re
        replace hB := below_later hB b49 (Nat.le_refl _)
        clear b49
        go_wp2_with fail
        refine (alive_any _).mono ?_
        rintro e w50 ⟨rfl, b50⟩
        have s50 := b50.size
        replace ot := ot.below b50
        replace ox := ox.below b50
        replace ob := ob.below b50
        replace oe := oe.below b50
        replace rt := rowKeep rt b50
        clear mt0 mt1 mt2 mt3 mt4 mt5
        obtain ⟨mt0, mt1, mt2, mt3, mt4, mt5⟩ := cells6 rt
        replace rx := rowKeep rx b50
        clear mx0 mx1 mx2 mx3 mx4 mx5
        obtain ⟨mx0, mx1, mx2, mx3, mx4, mx5⟩ := cells6 rx
        replace rb := rowKeep rb b50
        clear mb0 mb1 mb2 mb3 mb4 mb5
        obtain ⟨mb0, mb1, mb2, mb3, mb4, mb5⟩ := cells6 rb
        replace re := rowKeep re b50
        clear me0 me1 me2 me3 me4 me5
        obtain ⟨me0, me1, me2, me3, me4, me5⟩ := cells6 re
        replace hB := below_later hB b50 (Nat.le_refl _)
        clear b50
        go_wp2_with fail
        go_ret
        exact ⟨rfl, hB⟩
      exact AllReadyH.nil
    exact AllReadyH.nil
end Go.Proofs.Ythkiollagnjfaaa
