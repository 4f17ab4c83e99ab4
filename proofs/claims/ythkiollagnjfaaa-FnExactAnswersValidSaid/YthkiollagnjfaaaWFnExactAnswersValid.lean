/-
  Walk: the law FnExactAnswersValid returns true.
-/
import Derived.Test.YthkiollagnjfaaaN5
import Derived.Test.YthkiollagnjfaaaN6
import Derived.Test.YthkiollagnjfaaaN7
import Derived.Test.YthkiollagnjfaaaN12
import Derived.Test.YthkiollagnjfaaaS3
namespace Go.Proofs.Ythkiollagnjfaaa
open Go.RowKit
set_option linter.unusedSimpArgs false
set_option linter.unusedVariables false
set_option maxHeartbeats 8000000 in
theorem law_FnExactAnswersValid (w : World) (A : Option Addr) (n c : Nat) (d : List (Int × Bool)) (h : Sees w w.heap.size 2 A n c (ansC d)) (ps : Int) (pp : Bool) (tk : Int) (tp : Bool) (pd : Int) :
    Calls Try.prog 4 #[.agg #[.slice A n c, .int .i64 ps, .bool pp, .int .i64 tk, .bool tp, .int .i64 pd]] w (RetPure w (.bool true)) := by
  obtain rfl := h.ans
  have hc1 := h.cap
  have hc2 := h.big
  by_cases hbail : 1048576 < d.length
  · go_enter Try.func4, Try.ntmps4
    go_wp2_with fail
    refine (szAnswers_any _ _ _ _ _ _ _ _ _ _ (by omega) (by omega) (by omega)).mono ?_
    rw [if_pos (by omega)]
    rintro e w1 ⟨rfl, b1⟩
    go_wp2_with fail
    go_ret
    exact ⟨rfl, below_later (below_new _ _) b1 (Nat.le_refl _)⟩
  have hB : Below w.heap.size w w := Below.refl _ _
  have hn1 := below_new w (.cells #[.slice A d.length c, .int .i64 ps, .bool pp, .int .i64 tk, .bool tp, .int .i64 pd] 31)
  replace h := h.below hn1 hB.size
  replace hB := below_later hB hn1 (Nat.le_refl _)
  clear hn1
  have ra : (w.alloc (.cells #[.slice A d.length c, .int .i64 ps, .bool pp, .int .i64 tk, .bool tp, .int .i64 pd] 31)).heap[w.heap.size]? = some (.cells #[.slice A d.length c, .int .i64 ps, .bool pp, .int .i64 tk, .bool tp, .int .i64 pd] 31 (0, 0)) := heap_alloc_new _ _
  obtain ⟨ma0, ma1, ma2, ma3, ma4, ma5⟩ := cells6 ra
  have s1 : w.heap.size < (w.alloc (.cells #[.slice A d.length c, .int .i64 ps, .bool pp, .int .i64 tk, .bool tp, .int .i64 pd] 31)).heap.size := Nat.lt_of_lt_of_eq (Nat.lt_succ_self _) (World.size_alloc _ _).symm
  go_enter Try.func4, Try.ntmps4
  go_wp2_with fail
  generalize (w.alloc (.cells #[.slice A d.length c, .int .i64 ps, .bool pp, .int .i64 tk, .bool tp, .int .i64 pd] 31)) = u1 at *
  refine (szAnswers_any _ _ _ _ _ _ _ _ _ _ (by omega) (by omega) (by omega)).mono ?_
  rw [if_neg (by omega)]
  rintro e w2 ⟨rfl, b2⟩
  have s2 := b2.size
  replace h := h.below b2 hB.size
  replace ra := rowKeep ra b2
  clear ma0 ma1 ma2 ma3 ma4 ma5
  obtain ⟨ma0, ma1, ma2, ma3, ma4, ma5⟩ := cells6 ra
  replace hB := below_later hB b2 (Nat.le_refl _)
  clear b2
  obtain ⟨ok, hok⟩ : ∃ ok, aval ⟨d, ps, pp, tk, tp, pd⟩ = ok := ⟨_, rfl⟩
  have HK := Lib.hid hok
  clear hok
  go_wp2_with fail
  have q := toAnswers_any A d.length c _ d ps pp tk tp pd w2 h hB.size (by omega)
  refine q.mono ?_
  clear q
  rintro e w3 ⟨At, ct, rfl, ot, b3⟩
  simp only [ansR]
  have s3 := b3.size
  replace h := h.below b3 hB.size
  replace ra := rowKeep ra b3
  clear ma0 ma1 ma2 ma3 ma4 ma5
  obtain ⟨ma0, ma1, ma2, ma3, ma4, ma5⟩ := cells6 ra
  replace hB := below_later hB b3 (Nat.le_refl _)
  clear b3
  go_wp2_with fail
  have q := specAnswersValid_any At d.length ct _ d ps pp tk tp pd w3 ot.sees (by omega)
  rw [HK.out] at q
  refine q.mono ?_
  clear q
  rintro e w4 ⟨rfl, b4⟩
  have s4 := b4.size
  replace ot := ot.below b4
  replace h := h.below b4 hB.size
  replace ra := rowKeep ra b4
  clear ma0 ma1 ma2 ma3 ma4 ma5
  obtain ⟨ma0, ma1, ma2, ma3, ma4, ma5⟩ := cells6 ra
  replace hB := below_later hB b4 (Nat.le_refl _)
  clear b4
  clear ot
  go_wp2_with fail
  have q := toAnswers_any A d.length c _ d ps pp tk tp pd w4 h hB.size (by omega)
  refine q.mono ?_
  clear q
  rintro e w5 ⟨Ax, cx, rfl, ox, b5⟩
  simp only [ansR]
  have s5 := b5.size
  replace h := h.below b5 hB.size
  replace ra := rowKeep ra b5
  clear ma0 ma1 ma2 ma3 ma4 ma5
  obtain ⟨ma0, ma1, ma2, ma3, ma4, ma5⟩ := cells6 ra
  replace hB := below_later hB b5 (Nat.le_refl _)
  clear b5
  have k6 := ma0
  have k7 := ma1
  have k8 := ma2
  have k9 := ma3
  have k10 := ma4
  have k11 := ma5
  have hn12 := below_new w5 (.cells #[.slice Ax d.length cx, .int .i64 ps, .bool pp, .int .i64 tk, .bool tp, .int .i64 pd] 24)
  replace ox := ox.below hn12
  replace h := h.below hn12 hB.size
  replace ra := rowKeep ra hn12
  clear ma0 ma1 ma2 ma3 ma4 ma5
  obtain ⟨ma0, ma1, ma2, ma3, ma4, ma5⟩ := cells6 ra
  replace hB := below_later hB hn12 (Nat.le_refl _)
  clear hn12
  have rx : (w5.alloc (.cells #[.slice Ax d.length cx, .int .i64 ps, .bool pp, .int .i64 tk, .bool tp, .int .i64 pd] 24)).heap[w5.heap.size]? = some (.cells #[.slice Ax d.length cx, .int .i64 ps, .bool pp, .int .i64 tk, .bool tp, .int .i64 pd] 24 (0, 0)) := heap_alloc_new _ _
  obtain ⟨mx0, mx1, mx2, mx3, mx4, mx5⟩ := cells6 rx
  have s12 : w5.heap.size < (w5.alloc (.cells #[.slice Ax d.length cx, .int .i64 ps, .bool pp, .int .i64 tk, .bool tp, .int .i64 pd] 24)).heap.size := Nat.lt_of_lt_of_eq (Nat.lt_succ_self _) (World.size_alloc _ _).symm
  go_wp2_with fail
  clear k6 k7 k8 k9 k10 k11
  generalize (w5.alloc (.cells #[.slice Ax d.length cx, .int .i64 ps, .bool pp, .int .i64 tk, .bool tp, .int .i64 pd] 24)) = u12 at *
  have q := implAnswersValid_any Ax d.length cx _ d ps pp tk tp pd u12 ox.sees (by omega)
  rw [HK.out] at q
  refine q.mono ?_
  clear q
  rintro e w13 ⟨rfl, b13⟩
  have s13 := b13.size
  replace ox := ox.below b13
  replace h := h.below b13 hB.size
  replace ra := rowKeep ra b13
  clear ma0 ma1 ma2 ma3 ma4 ma5
  obtain ⟨ma0, ma1, ma2, ma3, ma4, ma5⟩ := cells6 ra
  replace rx := rowKeep rx b13
  clear mx0 mx1 mx2 mx3 mx4 mx5
  obtain ⟨mx0, mx1, mx2, mx3, mx4, mx5⟩ := cells6 rx
  replace hB := below_later hB b13 (Nat.le_refl _)
  clear b13
  go_wp2_with fail
  have hn14 : Below w13.heap.size w13 w13.drew := below_drewN (Below.refl _ _) 1
  have s14 : w13.heap.size ≤ w13.drew.heap.size := Nat.le_refl _
  replace ox := ox.below hn14
  replace h := h.below hn14 hB.size
  replace ra := rowKeep ra hn14
  clear ma0 ma1 ma2 ma3 ma4 ma5
  obtain ⟨ma0, ma1, ma2, ma3, ma4, ma5⟩ := cells6 ra
  replace rx := rowKeep rx hn14
  clear mx0 mx1 mx2 mx3 mx4 mx5
  obtain ⟨mx0, mx1, mx2, mx3, mx4, mx5⟩ := cells6 rx
  replace hB := below_later hB hn14 (Nat.le_refl _)
  clear hn14
  refine wp_region_noPanic ?_
  refine wp_region_held_drew (S := fun w' => w'.cell? ⟨w5.heap.size, 0, none⟩ = some (.slice Ax d.length cx) ∧ w'.cell? ⟨w5.heap.size, 1, none⟩ = some (.int .i64 ps) ∧ w'.cell? ⟨w5.heap.size, 2, none⟩ = some (.bool pp) ∧ w'.cell? ⟨w5.heap.size, 3, none⟩ = some (.int .i64 tk) ∧ w'.cell? ⟨w5.heap.size, 4, none⟩ = some (.bool tp) ∧ w'.cell? ⟨w5.heap.size, 5, none⟩ = some (.int .i64 pd) ∧ w'.cell? ⟨w.heap.size, 0, none⟩ = some (.slice A d.length c) ∧ w'.cell? ⟨w.heap.size, 1, none⟩ = some (.int .i64 ps) ∧ w'.cell? ⟨w.heap.size, 2, none⟩ = some (.bool pp) ∧ w'.cell? ⟨w.heap.size, 3, none⟩ = some (.int .i64 tk) ∧ w'.cell? ⟨w.heap.size, 4, none⟩ = some (.bool tp) ∧ w'.cell? ⟨w.heap.size, 5, none⟩ = some (.int .i64 pd)) (by kernel_rfl) ⟨mx0, mx1, mx2, mx3, mx4, mx5, ma0, ma1, ma2, ma3, ma4, ma5⟩ (fun hHeld => ?_)
  generalize w13.drew = u14 at *
  refine wpAnyH_take (i := 0) (v := ?_) rfl (by kernel_rfl) (by kernel_rfl) (by kernel_rfl) (fun _ _ _ h => h) (Or.inl ⟨by rfl, ?_⟩) (by assumption) ?_
  rotate_left
  · (intro wz hSw; (try dsimp only at hSw); go_simp; try with_reducible rfl)
  simp only [Act.put, List.getElem_toArray, List.getElem_cons_zero, List.getElem_cons_succ, List.setIfInBounds_toArray, List.set_cons_zero, List.set_cons_succ]
  refine wpAnyH_take (i := 1) (v := ?_) rfl (by kernel_rfl) (by kernel_rfl) (by kernel_rfl) (fun _ _ _ h => h) (Or.inl ⟨by rfl, ?_⟩) (by assumption) ?_
  rotate_left
  · (intro wz hSw; (try dsimp only at hSw); go_simp; try with_reducible rfl)
  simp only [Act.put, List.getElem_toArray, List.getElem_cons_zero, List.getElem_cons_succ, List.setIfInBounds_toArray, List.set_cons_zero, List.set_cons_succ]
  refine wpAnyH_ready (rs := [2]) (by kernel_rfl) (by simp) ?_
  refine AllReadyH.cons rfl (fun K hK => ?_) ?_
  · go_simp
    have q := toAnswers_any A d.length c _ d ps pp tk tp pd u14 h hB.size (by omega)
    refine q.mono ?_
    clear q
    rintro e w15 ⟨Ay, cy, rfl, oy, b15⟩
    simp only [ansR]
    have s15 := b15.size
    replace ox := ox.below b15
    replace h := h.below b15 hB.size
    replace ra := rowKeep ra b15
    clear ma0 ma1 ma2 ma3 ma4 ma5
    obtain ⟨ma0, ma1, ma2, ma3, ma4, ma5⟩ := cells6 ra
    replace rx := rowKeep rx b15
    clear mx0 mx1 mx2 mx3 mx4 mx5
    obtain ⟨mx0, mx1, mx2, mx3, mx4, mx5⟩ := cells6 rx
    replace hB := below_later hB b15 (Nat.le_refl _)
    clear b15
    refine hK.out _ _ ⟨mx0, mx1, mx2, mx3, mx4, mx5, ma0, ma1, ma2, ma3, ma4, ma5⟩ (fun hHeld => ?_)
    clear hK K
    try simp only [Act.put, List.getElem_toArray, List.getElem_cons_zero, List.getElem_cons_succ, List.setIfInBounds_toArray, List.set_cons_zero, List.set_cons_succ]
    refine wpAnyH_ready (rs := [3]) (by kernel_rfl) (by simp) ?_
    refine AllReadyH.cons rfl (fun K hK => ?_) ?_
    · go_simp
      refine (eqAnswers_t _ _ _ _ _ _ _ _ _ _ _ _ _ _ _ ox.sees oy.sees (by omega) (by omega)).mono ?_
      rintro e w16 ⟨rfl, b16⟩
      have s16 := b16.size
      replace ox := ox.below b16
      replace oy := oy.below b16
      replace h := h.below b16 hB.size
      replace ra := rowKeep ra b16
      clear ma0 ma1 ma2 ma3 ma4 ma5
      obtain ⟨ma0, ma1, ma2, ma3, ma4, ma5⟩ := cells6 ra
      replace rx := rowKeep rx b16
      clear mx0 mx1 mx2 mx3 mx4 mx5
      obtain ⟨mx0, mx1, mx2, mx3, mx4, mx5⟩ := cells6 rx
      replace hB := below_later hB b16 (Nat.le_refl _)
      clear b16
      refine hK.out _ _ ⟨mx0, mx1, mx2, mx3, mx4, mx5, ma0, ma1, ma2, ma3, ma4, ma5⟩ (fun hHeld => ?_)
      clear hK K
      try simp only [Act.put, List.getElem_toArray, List.getElem_cons_zero, List.getElem_cons_succ, List.setIfInBounds_toArray, List.set_cons_zero, List.set_cons_succ]
      refine wpAnyH_take (i := 4) (v := ?_) rfl (by kernel_rfl) (by kernel_rfl) (by kernel_rfl) (fun _ _ _ h => h) (Or.inl ⟨by rfl, ?_⟩) (by assumption) ?_
      rotate_left
      · (intro wz hSw; (try dsimp only at hSw); go_simp; try with_reducible rfl)
      simp only [Act.put, List.getElem_toArray, List.getElem_cons_zero, List.getElem_cons_succ, List.setIfInBounds_toArray, List.set_cons_zero, List.set_cons_succ]
      refine wpAnyH_done (by kernel_rfl) ?_ _
      refine NoPanic.normal ?_
      clear oy
      go_wp2_with fail
      go_ret
      exact ⟨rfl, hB⟩
    exact AllReadyH.nil
  exact AllReadyH.nil
end Go.Proofs.Ythkiollagnjfaaa
