/-
  Walk: the law FnExactPostAnswer returns true.
-/
import Derived.Test.YthkiollagnjfaaaN9
import Derived.Test.YthkiollagnjfaaaN5
import Derived.Test.YthkiollagnjfaaaN12
import Derived.Test.YthkiollagnjfaaaS3
namespace Go.Proofs.Ythkiollagnjfaaa
open Go.RowKit
set_option linter.unusedSimpArgs false
set_option linter.unusedVariables false
set_option maxHeartbeats 8000000 in
theorem law_FnExactPostAnswer (w : World) (A : Option Addr) (n c : Nat) (d : List (Int × Bool)) (h : Sees w w.heap.size 2 A n c (ansC d)) (ps : Int) (pp : Bool) (tk : Int) (tp : Bool) (pd : Int) (v : Int) (_hv : -9223372036854775808 ≤ v ∧ v ≤ 9223372036854775807) :
    Calls Try.prog 9 #[.agg #[.slice A n c, .int .i64 ps, .bool pp, .int .i64 tk, .bool tp, .int .i64 pd], .int .i64 v] w (RetPure w (.bool true)) := by
  obtain rfl := h.ans
  have hc1 := h.cap
  have hc2 := h.big
  obtain ⟨rd, rps, rpp, rtk, rtp, rpd, hr⟩ : ∃ rd rps rpp rtk rtp rpd, apost ⟨d, ps, pp, tk, tp, pd⟩ v = ⟨rd, rps, rpp, rtk, rtp, rpd⟩ := ⟨_, _, _, _, _, _, rfl⟩
  have hl : rd.length ≤ 16 := by have h16 : (apost ⟨d, ps, pp, tk, tp, pd⟩ v).ents.length ≤ 16 := apost_16 _ _; rw [hr] at h16; exact h16
  have HR := Lib.hid hr
  clear hr
  obtain ⟨ok, hok⟩ : ∃ ok, aposted ⟨d, ps, pp, tk, tp, pd⟩ = ok := ⟨_, rfl⟩
  have HK := Lib.hid hok
  clear hok
  by_cases hbail : 1048576 < d.length
  · go_enter Try.func9, Try.ntmps9
    go_wp2_with fail
    refine (szAnswers_any _ _ _ _ _ _ _ _ _ _ (by omega) (by omega) (by omega)).mono ?_
    rw [if_pos (by omega)]
    rintro e w1 ⟨rfl, b1⟩
    go_wp2_with fail
    go_ret
    exact ⟨rfl, below_later (below_new _ _) b1 (Nat.le_refl _)⟩
  have hB : Below w.heap.size w w := Below.refl _ _
  have hn1 := below_new w (.cells #[.slice A d.length c, .int .i64 ps, .bool pp, .int .i64 tk, .bool tp, .int .i64 pd] 31)
  replace h := h.below hn1 hB.size
  replace hB := below_later hB hn1 (Nat.le_refl _)
  clear hn1
  have ra : (w.alloc (.cells #[.slice A d.length c, .int .i64 ps, .bool pp, .int .i64 tk, .bool tp, .int .i64 pd] 31)).heap[w.heap.size]? = some (.cells #[.slice A d.length c, .int .i64 ps, .bool pp, .int .i64 tk, .bool tp, .int .i64 pd] 31 (0, 0)) := heap_alloc_new _ _
  obtain ⟨ma0, ma1, ma2, ma3, ma4, ma5⟩ := cells6 ra
  have s1 : w.heap.size < (w.alloc (.cells #[.slice A d.length c, .int .i64 ps, .bool pp, .int .i64 tk, .bool tp, .int .i64 pd] 31)).heap.size := Nat.lt_of_lt_of_eq (Nat.lt_succ_self _) (World.size_alloc _ _).symm
  go_enter Try.func9, Try.ntmps9
  go_wp2_with fail
  generalize (w.alloc (.cells #[.slice A d.length c, .int .i64 ps, .bool pp, .int .i64 tk, .bool tp, .int .i64 pd] 31)) = u1 at *
  refine (szAnswers_any _ _ _ _ _ _ _ _ _ _ (by omega) (by omega) (by omega)).mono ?_
  rw [if_neg (by omega)]
  rintro e w2 ⟨rfl, b2⟩
  have s2 := b2.size
  replace h := h.below b2 hB.size
  replace ra := rowKeep ra b2
  clear ma0 ma1 ma2 ma3 ma4 ma5
  obtain ⟨ma0, ma1, ma2, ma3, ma4, ma5⟩ := cells6 ra
  replace hB := below_later hB b2 (Nat.le_refl _)
  clear b2
  go_wp2_with fail
  have q := toAnswers_any A d.length c _ d ps pp tk tp pd w2 h hB.size (by omega)
  refine q.mono ?_
  clear q
  rintro e w3 ⟨At, ct, rfl, ot, b3⟩
  simp only [ansR]
  have s3 := b3.size
  replace h := h.below b3 hB.size
  replace ra := rowKeep ra b3
  clear ma0 ma1 ma2 ma3 ma4 ma5
  obtain ⟨ma0, ma1, ma2, ma3, ma4, ma5⟩ := cells6 ra
  replace hB := below_later hB b3 (Nat.le_refl _)
  clear b3
  go_wp2_with fail
  have q := specPostAnswer_any At d.length ct _ d ps pp tk tp pd v w3 ot.sees (by omega)
  refine q.mono ?_
  clear q
  rintro e w4 ⟨As, cs, rfl, os, b4⟩
  simp only [HR.out, HK.out, ansW, ansR, postV]
  simp only [HR.out] at os
  have s4 := b4.size
  replace ot := ot.below b4
  replace h := h.below b4 hB.size
  replace ra := rowKeep ra b4
  clear ma0 ma1 ma2 ma3 ma4 ma5
  obtain ⟨ma0, ma1, ma2, ma3, ma4, ma5⟩ := cells6 ra
  replace hB := below_later hB b4 (Nat.le_refl _)
  clear b4
  clear ot
  have k5 := ma0
  have k6 := ma1
  have k7 := ma2
  have k8 := ma3
  have k9 := ma4
  have k10 := ma5
  have hn11 := below_new w4 (.cells #[.slice As rd.length cs, .int .i64 rps, .bool rpp, .int .i64 rtk, .bool rtp, .int .i64 rpd] 24)
  replace os := os.below hn11
  replace h := h.below hn11 hB.size
  replace ra := rowKeep ra hn11
  clear ma0 ma1 ma2 ma3 ma4 ma5
  obtain ⟨ma0, ma1, ma2, ma3, ma4, ma5⟩ := cells6 ra
  replace hB := below_later hB hn11 (Nat.le_refl _)
  clear hn11
  have rs : (w4.alloc (.cells #[.slice As rd.length cs, .int .i64 rps, .bool rpp, .int .i64 rtk, .bool rtp, .int .i64 rpd] 24)).heap[w4.heap.size]? = some (.cells #[.slice As rd.length cs, .int .i64 rps, .bool rpp, .int .i64 rtk, .bool rtp, .int .i64 rpd] 24 (0, 0)) := heap_alloc_new _ _
  obtain ⟨ms0, ms1, ms2, ms3, ms4, ms5⟩ := cells6 rs
  have s11 : w4.heap.size < (w4.alloc (.cells #[.slice As rd.length cs, .int .i64 rps, .bool rpp, .int .i64 rtk, .bool rtp, .int .i64 rpd] 24)).heap.size := Nat.lt_of_lt_of_eq (Nat.lt_succ_self _) (World.size_alloc _ _).symm
  go_wp2_with fail
  clear k5 k6 k7 k8 k9 k10
  generalize (w4.alloc (.cells #[.slice As rd.length cs, .int .i64 rps, .bool rpp, .int .i64 rtk, .bool rtp, .int .i64 rpd] 24)) = u11 at *
  have q := toAnswers_any A d.length c _ d ps pp tk tp pd u11 h hB.size (by omega)
  refine q.mono ?_
  clear q
  rintro e w12 ⟨Ax, cx, rfl, ox, b12⟩
  simp only [ansR]
  have s12 := b12.size
  replace os := os.below b12
  replace h := h.below b12 hB.size
  replace ra := rowKeep ra b12
  clear ma0 ma1 ma2 ma3 ma4 ma5
  obtain ⟨ma0, ma1, ma2, ma3, ma4, ma5⟩ := cells6 ra
  replace rs := rowKeep rs b12
  clear ms0 ms1 ms2 ms3 ms4 ms5
  obtain ⟨ms0, ms1, ms2, ms3, ms4, ms5⟩ := cells6 rs
  replace hB := below_later hB b12 (Nat.le_refl _)
  clear b12
  have k13 := ma0
  have k14 := ma1
  have k15 := ma2
  have k16 := ma3
  have k17 := ma4
  have k18 := ma5
  have k19 := ms0
  have k20 := ms1
  have k21 := ms2
  have k22 := ms3
  have k23 := ms4
  have k24 := ms5
  have hn25 := below_new w12 (.cells #[.slice Ax d.length cx, .int .i64 ps, .bool pp, .int .i64 tk, .bool tp, .int .i64 pd] 24)
  replace os := os.below hn25
  replace ox := ox.below hn25
  replace h := h.below hn25 hB.size
  replace ra := rowKeep ra hn25
  clear ma0 ma1 ma2 ma3 ma4 ma5
  obtain ⟨ma0, ma1, ma2, ma3, ma4, ma5⟩ := cells6 ra
  replace rs := rowKeep rs hn25
  clear ms0 ms1 ms2 ms3 ms4 ms5
  obtain ⟨ms0, ms1, ms2, ms3, ms4, ms5⟩ := cells6 rs
  replace hB := below_later hB hn25 (Nat.le_refl _)
  clear hn25
  have rx : (w12.alloc (.cells #[.slice Ax d.length cx, .int .i64 ps, .bool pp, .int .i64 tk, .bool tp, .int .i64 pd] 24)).heap[w12.heap.size]? = some (.cells #[.slice Ax d.length cx, .int .i64 ps, .bool pp, .int .i64 tk, .bool tp, .int .i64 pd] 24 (0, 0)) := heap_alloc_new _ _
  obtain ⟨mx0, mx1, mx2, mx3, mx4, mx5⟩ := cells6 rx
  have s25 : w12.heap.size < (w12.alloc (.cells #[.slice Ax d.length cx, .int .i64 ps, .bool pp, .int .i64 tk, .bool tp, .int .i64 pd] 24)).heap.size := Nat.lt_of_lt_of_eq (Nat.lt_succ_self _) (World.size_alloc _ _).symm
  go_wp2_with fail
  clear k13 k14 k15 k16 k17 k18 k19 k20 k21 k22 k23 k24
  generalize (w12.alloc (.cells #[.slice Ax d.length cx, .int .i64 ps, .bool pp, .int .i64 tk, .bool tp, .int .i64 pd] 24)) = u25 at *
  have q := implPostAnswer_any Ax d.length cx _ d ps pp tk tp pd v u25 ox.sees (by omega)
  refine q.mono ?_
  clear q
  rintro e w26 ⟨Ag, cg, rfl, og, b26⟩
  simp only [HR.out, HK.out, ansW, ansR, postV]
  simp only [HR.out] at og
  have s26 := b26.size
  replace os := os.below b26
  replace ox := ox.below b26
  replace h := h.below b26 hB.size
  replace ra := rowKeep ra b26
  clear ma0 ma1 ma2 ma3 ma4 ma5
  obtain ⟨ma0, ma1, ma2, ma3, ma4, ma5⟩ := cells6 ra
  replace rs := rowKeep rs b26
  clear ms0 ms1 ms2 ms3 ms4 ms5
  obtain ⟨ms0, ms1, ms2, ms3, ms4, ms5⟩ := cells6 rs
  replace rx := rowKeep rx b26
  clear mx0 mx1 mx2 mx3 mx4 mx5
  obtain ⟨mx0, mx1, mx2, mx3, mx4, mx5⟩ := cells6 rx
  replace hB := below_later hB b26 (Nat.le_refl _)
  clear b26
  have k27 := ma0
  have k28 := ma1
  have k29 := ma2
  have k30 := ma3
  have k31 := ma4
  have k32 := ma5
  have k33 := ms0
  have k34 := ms1
  have k35 := ms2
  have k36 := ms3
  have k37 := ms4
  have k38 := ms5
  have k39 := mx0
  have k40 := mx1
  have k41 := mx2
  have k42 := mx3
  have k43 := mx4
  have k44 := mx5
  have hn45 := below_new w26 (.cells #[.slice Ag rd.length cg, .int .i64 rps, .bool rpp, .int .i64 rtk, .bool rtp, .int .i64 rpd] 24)
  replace os := os.below hn45
  replace ox := ox.below hn45
  replace og := og.below hn45
  replace h := h.below hn45 hB.size
  replace ra := rowKeep ra hn45
  clear ma0 ma1 ma2 ma3 ma4 ma5
  obtain ⟨ma0, ma1, ma2, ma3, ma4, ma5⟩ := cells6 ra
  replace rs := rowKeep rs hn45
  clear ms0 ms1 ms2 ms3 ms4 ms5
  obtain ⟨ms0, ms1, ms2, ms3, ms4, ms5⟩ := cells6 rs
  replace rx := rowKeep rx hn45
  clear mx0 mx1 mx2 mx3 mx4 mx5
  obtain ⟨mx0, mx1, mx2, mx3, mx4, mx5⟩ := cells6 rx
  replace hB := below_later hB hn45 (Nat.le_refl _)
  clear hn45
  have rg : (w26.alloc (.cells #[.slice Ag rd.length cg, .int .i64 rps, .bool rpp, .int .i64 rtk, .bool rtp, .int .i64 rpd] 24)).heap[w26.heap.size]? = some (.cells #[.slice Ag rd.length cg, .int .i64 rps, .bool rpp, .int .i64 rtk, .bool rtp, .int .i64 rpd] 24 (0, 0)) := heap_alloc_new _ _
  obtain ⟨mg0, mg1, mg2, mg3, mg4, mg5⟩ := cells6 rg
  have s45 : w26.heap.size < (w26.alloc (.cells #[.slice Ag rd.length cg, .int .i64 rps, .bool rpp, .int .i64 rtk, .bool rtp, .int .i64 rpd] 24)).heap.size := Nat.lt_of_lt_of_eq (Nat.lt_succ_self _) (World.size_alloc _ _).symm
  go_wp2_with fail
  clear k27 k28 k29 k30 k31 k32 k33 k34 k35 k36 k37 k38 k39 k40 k41 k42 k43 k44
  generalize (w26.alloc (.cells #[.slice Ag rd.length cg, .int .i64 rps, .bool rpp, .int .i64 rtk, .bool rtp, .int .i64 rpd] 24)) = u45 at *
  refine (eqAnswers_t _ _ _ _ _ _ _ _ _ _ _ _ _ _ _ og.sees os.sees (by omega) (by omega)).mono ?_
  rintro e w46 ⟨rfl, b46⟩
  have s46 := b46.size
  replace os := os.below b46
  replace ox := ox.below b46
  replace og := og.below b46
  replace h := h.below b46 hB.size
  replace ra := rowKeep ra b46
  clear ma0 ma1 ma2 ma3 ma4 ma5
  obtain ⟨ma0, ma1, ma2, ma3, ma4, ma5⟩ := cells6 ra
  replace rs := rowKeep rs b46
  clear ms0 ms1 ms2 ms3 ms4 ms5
  obtain ⟨ms0, ms1, ms2, ms3, ms4, ms5⟩ := cells6 rs
  replace rx := rowKeep rx b46
  clear mx0 mx1 mx2 mx3 mx4 mx5
  obtain ⟨mx0, mx1, mx2, mx3, mx4, mx5⟩ := cells6 rx
  replace rg := rowKeep rg b46
  clear mg0 mg1 mg2 mg3 mg4 mg5
  obtain ⟨mg0, mg1, mg2, mg3, mg4, mg5⟩ := cells6 rg
  replace hB := below_later hB b46 (Nat.le_refl _)
  clear b46
  go_wp2_with fail
  have hn47 : Below w46.heap.size w46 w46.drew := below_drewN (Below.refl _ _) 1
  have s47 : w46.heap.size ≤ w46.drew.heap.size := Nat.le_refl _
  replace os := os.below hn47
  replace ox := ox.below hn47
  replace og := og.below hn47
  replace h := h.below hn47 hB.size
  replace ra := rowKeep ra hn47
  clear ma0 ma1 ma2 ma3 ma4 ma5
  obtain ⟨ma0, ma1, ma2, ma3, ma4, ma5⟩ := cells6 ra
  replace rs := rowKeep rs hn47
  clear ms0 ms1 ms2 ms3 ms4 ms5
  obtain ⟨ms0, ms1, ms2, ms3, ms4, ms5⟩ := cells6 rs
  replace rx := rowKeep rx hn47
  clear mx0 mx1 mx2 mx3 mx4 mx5
  obtain ⟨mx0, mx1, mx2, mx3, mx4, mx5⟩ := cells6 rx
  replace rg := rowKeep rg hn47
  clear mg0 mg1 mg2 mg3 mg4 mg5
  obtain ⟨mg0, mg1, mg2, mg3, mg4, mg5⟩ := cells6 rg
  replace hB := below_later hB hn47 (Nat.le_refl _)
  clear hn47
  refine wp_region_noPanic ?_
  refine wp_region_held_drew (S := fun w' => w'.cell? ⟨w12.heap.size, 0, none⟩ = some (.slice Ax d.length cx) ∧ w'.cell? ⟨w12.heap.size, 1, none⟩ = some (.int .i64 ps) ∧ w'.cell? ⟨w12.heap.size, 2, none⟩ = some (.bool pp) ∧ w'.cell? ⟨w12.heap.size, 3, none⟩ = some (.int .i64 tk) ∧ w'.cell? ⟨w12.heap.size, 4, none⟩ = some (.bool tp) ∧ w'.cell? ⟨w12.heap.size, 5, none⟩ = some (.int .i64 pd) ∧ w'.cell? ⟨w.heap.size, 0, none⟩ = some (.slice A d.length c) ∧ w'.cell? ⟨w.heap.size, 1, none⟩ = some (.int .i64 ps) ∧ w'.cell? ⟨w.heap.size, 2, none⟩ = some (.bool pp) ∧ w'.cell? ⟨w.heap.size, 3, none⟩ = some (.int .i64 tk) ∧ w'.cell? ⟨w.heap.size, 4, none⟩ = some (.bool tp) ∧ w'.cell? ⟨w.heap.size, 5, none⟩ = some (.int .i64 pd)) (by kernel_rfl) ⟨mx0, mx1, mx2, mx3, mx4, mx5, ma0, ma1, ma2, ma3, ma4, ma5⟩ (fun hHeld => ?_)
  generalize w46.drew = u47 at *
  refine wpAnyH_take (i := 0) (v := ?_) rfl (by kernel_rfl) (by kernel_rfl) (by kernel_rfl) (fun _ _ _ h => h) (Or.inl ⟨by rfl, ?_⟩) (by assumption) ?_
  rotate_left
  · (intro wz hSw; (try dsimp only at hSw); go_simp; try with_reducible rfl)
  simp only [Act.put, List.getElem_toArray, List.getElem_cons_zero, List.getElem_cons_succ, List.setIfInBounds_toArray, List.set_cons_zero, List.set_cons_succ]
  refine wpAnyH_take (i := 1) (v := ?_) rfl (by kernel_rfl) (by kernel_rfl) (by kernel_rfl) (fun _ _ _ h => h) (Or.inl ⟨by rfl, ?_⟩) (by assumption) ?_
  rotate_left
  · (intro wz hSw; (try dsimp only at hSw); go_simp; try with_reducible rfl)
  simp only [Act.put, List.getElem_toArray, List.getElem_cons_zero, List.getElem_cons_succ, List.setIfInBounds_toArray, List.set_cons_zero, List.set_cons_succ]
  refine wpAnyH_ready (rs := [2]) (by kernel_rfl) (by simp) ?_
  refine AllReadyH.cons rfl (fun K hK => ?_) ?_
  · go_simp
    have q := toAnswers_any A d.length c _ d ps pp tk tp pd u47 h hB.size (by omega)
    refine q.mono ?_
    clear q
    rintro e w48 ⟨Ay, cy, rfl, oy, b48⟩
    simp only [ansR]
    have s48 := b48.size
    replace os := os.below b48
    replace ox := ox.below b48
    replace og := og.below b48
    replace h := h.below b48 hB.size
    replace ra := rowKeep ra b48
    clear ma0 ma1 ma2 ma3 ma4 ma5
    obtain ⟨ma0, ma1, ma2, ma3, ma4, ma5⟩ := cells6 ra
    replace rs := rowKeep rs b48
    clear ms0 ms1 ms2 ms3 ms4 ms5
    obtain ⟨ms0, ms1, ms2, ms3, ms4, ms5⟩ := cells6 rs
    replace rx := rowKeep rx b48
    clear mx0 mx1 mx2 mx3 mx4 mx5
    obtain ⟨mx0, mx1, mx2, mx3, mx4, mx5⟩ := cells6 rx
    replace rg := rowKeep rg b48
    clear mg0 mg1 mg2 mg3 mg4 mg5
    obtain ⟨mg0, mg1, mg2, mg3, mg4, mg5⟩ := cells6 rg
    replace hB := below_later hB b48 (Nat.le_refl _)
    clear b48
    refine hK.out _ _ ⟨mx0, mx1, mx2, mx3, mx4, mx5, ma0, ma1, ma2, ma3, ma4, ma5⟩ (fun hHeld => ?_)
    clear hK K
    try simp only [Act.put, List.getElem_toArray, List.getElem_cons_zero, List.getElem_cons_succ, List.setIfInBounds_toArray, List.set_cons_zero, List.set_cons_succ]
    refine wpAnyH_ready (rs := [3]) (by kernel_rfl) (by simp) ?_
    refine AllReadyH.cons rfl (fun K hK => ?_) ?_
    · go_simp
      refine (eqAnswers_t _ _ _ _ _ _ _ _ _ _ _ _ _ _ _ ox.sees oy.sees (by omega) (by omega)).mono ?_
      rintro e w49 ⟨rfl, b49⟩
      have s49 := b49.size
      replace os := os.below b49
      replace ox := ox.below b49
      replace og := og.below b49
      replace oy := oy.below b49
      replace h := h.below b49 hB.size
      replace ra := rowKeep ra b49
      clear ma0 ma1 ma2 ma3 ma4 ma5
      obtain ⟨ma0, ma1, ma2, ma3, ma4, ma5⟩ := cells6 ra
      replace rs := rowKeep rs b49
      clear ms0 ms1 ms2 ms3 ms4 ms5
      obtain ⟨ms0, ms1, ms2, ms3, ms4, ms5⟩ := cells6 rs
      replace rx := rowKeep rx b49
      clear mx0 mx1 mx2 mx3 mx4 mx5
      obtain ⟨mx0, mx1, mx2, mx3, mx4, mx5⟩ := cells6 rx
      replace rg := rowKeep rg b49
      clear mg0 mg1 mg2 mg3 mg4 mg5
      obtain ⟨mg0, mg1, mg2, mg3, mg4, mg5⟩ := cells6 rg
      replace hB := below_later hB b49 (Nat.le_refl _)
      clear b49
      refine hK.out _ _ ⟨mx0, mx1, mx2, mx3, mx4, mx5, ma0, ma1, ma2, ma3, ma4, ma5⟩ (fun hHeld => ?_)
      clear hK K
      try simp only [Act.put, List.getElem_toArray, List.getElem_cons_zero, List.getElem_cons_succ, List.setIfInBounds_toArray, List.set_cons_zero, List.set_cons_succ]
      refine wpAnyH_take (i := 4) (v := ?_) rfl (by kernel_rfl) (by kernel_rfl) (by kernel_rfl) (fun _ _ _ h => h) (Or.inl ⟨by rfl, ?_⟩) (by assumption) ?_
      rotate_left
      · (intro wz hSw; (try dsimp only at hSw); go_simp; try with_reducible rfl)
      simp only [Act.put, List.getElem_toArray, List.getElem_cons_zero, List.getElem_cons_succ, List.setIfInBounds_toArray, List.set_cons_zero, List.set_cons_succ]
      refine wpAnyH_done (by kernel_rfl) ?_ _
      refine NoPanic.normal ?_
      clear oy
      go_wp2_with fail
      refine (markAnswers_any _ _ _ _ _ _ _ _ _ _ _ 1 _ ox (by omega) (by omega)).mono ?_
      rintro e w50 ⟨rfl, qx, f50⟩
      have s50 := f50.size
      replace os := os.fr f50 (by omega)
      replace og := og.fr f50 (by omega)
      replace h := h.fr f50 (by omega) hB.size
      replace ra := rowFr ra f50 (by omega)
      clear ma0 ma1 ma2 ma3 ma4 ma5
      obtain ⟨ma0, ma1, ma2, ma3, ma4, ma5⟩ := cells6 ra
      replace rs := rowFr rs f50 (by omega)
      clear ms0 ms1 ms2 ms3 ms4 ms5
      obtain ⟨ms0, ms1, ms2, ms3, ms4, ms5⟩ := cells6 rs
      replace rx := rowFr rx f50 (by omega)
      clear mx0 mx1 mx2 mx3 mx4 mx5
      obtain ⟨mx0, mx1, mx2, mx3, mx4, mx5⟩ := cells6 rx
      replace rg := rowFr rg f50 (by omega)
      clear mg0 mg1 mg2 mg3 mg4 mg5
      obtain ⟨mg0, mg1, mg2, mg3, mg4, mg5⟩ := cells6 rg
      replace hB := f50.below hB (by omega) (Nat.le_refl _)
      clear f50 ox
      have ox := qx
      clear qx
      clear ox
      clear rx mx0 mx1 mx2 mx3 mx4 mx5
      go_wp2_with fail
      refine (eqAnswers_t _ _ _ _ _ _ _ _ _ _ _ _ _ _ _ og.sees os.sees (by omega) (by omega)).mono ?_
      rintro e w51 ⟨rfl, b51⟩
      have s51 := b51.size
      replace os := os.below b51
      replace og := og.below b51
      replace h := h.below b51 hB.size
      replace ra := rowKeep ra b51
      clear ma0 ma1 ma2 ma3 ma4 ma5
      obtain ⟨ma0, ma1, ma2, ma3, ma4, ma5⟩ := cells6 ra
      replace rs := rowKeep rs b51
      clear ms0 ms1 ms2 ms3 ms4 ms5
      obtain ⟨ms0, ms1, ms2, ms3, ms4, ms5⟩ := cells6 rs
      replace rg := rowKeep rg b51
      clear mg0 mg1 mg2 mg3 mg4 mg5
      obtain ⟨mg0, mg1, mg2, mg3, mg4, mg5⟩ := cells6 rg
      replace hB := below_later hB b51 (Nat.le_refl _)
      clear b51
      go_wp2_with fail
      refine (markAnswers_any _ _ _ _ _ _ _ _ _ _ _ 1 _ og (by omega) (by omega)).mono ?_
      rintro e w52 ⟨rfl, qg, f52⟩
      have s52 := f52.size
      replace os := os.fr f52 (by omega)
      replace h := h.fr f52 (by omega) hB.size
      replace ra := rowFr ra f52 (by omega)
      clear ma0 ma1 ma2 ma3 ma4 ma5
      obtain ⟨ma0, ma1, ma2, ma3, ma4, ma5⟩ := cells6 ra
      replace rs := rowFr rs f52 (by omega)
      clear ms0 ms1 ms2 ms3 ms4 ms5
      obtain ⟨ms0, ms1, ms2, ms3, ms4, ms5⟩ := cells6 rs
      replace rg := rowFr rg f52 (by omega)
      clear mg0 mg1 mg2 mg3 mg4 mg5
      obtain ⟨mg0, mg1, mg2, mg3, mg4, mg5⟩ := cells6 rg
      replace hB := f52.below hB (by omega) (Nat.le_refl _)
      clear f52 og
      have og := qg
      clear qg
      go_wp2_with fail
      refine (heldAnswers_any _ _ _ _ _ _ _ _ _ 1 _ og.sees (by omega) (by omega) (by omega)).mono ?_
      rintro e w53 ⟨rfl, b53⟩
      have s53 := b53.size
      replace os := os.below b53
      replace og := og.below b53
      replace h := h.below b53 hB.size
      replace ra := rowKeep ra b53
      clear ma0 ma1 ma2 ma3 ma4 ma5
      obtain ⟨ma0, ma1, ma2, ma3, ma4, ma5⟩ := cells6 ra
      replace rs := rowKeep rs b53
      clear ms0 ms1 ms2 ms3 ms4 ms5
      obtain ⟨ms0, ms1, ms2, ms3, ms4, ms5⟩ := cells6 rs
      replace rg := rowKeep rg b53
      clear mg0 mg1 mg2 mg3 mg4 mg5
      obtain ⟨mg0, mg1, mg2, mg3, mg4, mg5⟩ := cells6 rg
      replace hB := below_later hB b53 (Nat.le_refl _)
      clear b53
      go_wp2_with fail
      have q := toAnswers_any A d.length c _ d ps pp tk tp pd w53 h hB.size (by omega)
      refine q.mono ?_
      clear q
      rintro e w54 ⟨At, ct, rfl, ot, b54⟩
      simp only [ansR]
      have s54 := b54.size
      replace os := os.below b54
      replace og := og.below b54
      replace h := h.below b54 hB.size
      replace ra := rowKeep ra b54
      clear ma0 ma1 ma2 ma3 ma4 ma5
      obtain ⟨ma0, ma1, ma2, ma3, ma4, ma5⟩ := cells6 ra
      replace rs := rowKeep rs b54
      clear ms0 ms1 ms2 ms3 ms4 ms5
      obtain ⟨ms0, ms1, ms2, ms3, ms4, ms5⟩ := cells6 rs
      replace rg := rowKeep rg b54
      clear mg0 mg1 mg2 mg3 mg4 mg5
      obtain ⟨mg0, mg1, mg2, mg3, mg4, mg5⟩ := cells6 rg
      replace hB := below_later hB b54 (Nat.le_refl _)
      clear b54
      go_wp2_with fail
      have q := implPostAnswer_any At d.length ct _ d ps pp tk tp pd v w54 ot.sees (by omega)
      refine q.mono ?_
      clear q
      rintro e w55 ⟨Av, cv, rfl, ov, b55⟩
      simp only [HR.out, HK.out, ansW, ansR, postV]
      simp only [HR.out] at ov
      have s55 := b55.size
      replace os := os.below b55
      replace og := og.below b55
      replace ot := ot.below b55
      replace h := h.below b55 hB.size
      replace ra := rowKeep ra b55
      clear ma0 ma1 ma2 ma3 ma4 ma5
      obtain ⟨ma0, ma1, ma2, ma3, ma4, ma5⟩ := cells6 ra
      replace rs := rowKeep rs b55
      clear ms0 ms1 ms2 ms3 ms4 ms5
      obtain ⟨ms0, ms1, ms2, ms3, ms4, ms5⟩ := cells6 rs
      replace rg := rowKeep rg b55
      clear mg0 mg1 mg2 mg3 mg4 mg5
      obtain ⟨mg0, mg1, mg2, mg3, mg4, mg5⟩ := cells6 rg
      replace hB := below_later hB b55 (Nat.le_refl _)
      clear b55
      clear ot
      have k56 := ma0
      have k57 := ma1
      have k58 := ma2
      have k59 := ma3
      have k60 := ma4
      have k61 := ma5
      have k62 := ms0
      have k63 := ms1
      have k64 := ms2
      have k65 := ms3
      have k66 := ms4
      have k67 := ms5
      have k68 := mg0
      have k69 := mg1
      have k70 := mg2
      have k71 := mg3
      have k72 := mg4
      have k73 := mg5
      have hn74 := below_new w55 (.cells #[.slice Av rd.length cv, .int .i64 rps, .bool rpp, .int .i64 rtk, .bool rtp, .int .i64 rpd] 24)
      replace os := os.below hn74
      replace og := og.below hn74
      replace ov := ov.below hn74
      replace h := h.below hn74 hB.size
      replace ra := rowKeep ra hn74
      clear ma0 ma1 ma2 ma3 ma4 ma5
      obtain ⟨ma0, ma1, ma2, ma3, ma4, ma5⟩ := cells6 ra
      replace rs := rowKeep rs hn74
      clear ms0 ms1 ms2 ms3 ms4 ms5
      obtain ⟨ms0, ms1, ms2, ms3, ms4, ms5⟩ := cells6 rs
      replace rg := rowKeep rg hn74
      clear mg0 mg1 mg2 mg3 mg4 mg5
      obtain ⟨mg0, mg1, mg2, mg3, mg4, mg5⟩ := cells6 rg
      replace hB := below_later hB hn74 (Nat.le_refl _)
      clear hn74
      have rv : (w55.alloc (.cells #[.slice Av rd.length cv, .int .i64 rps, .bool rpp, .int .i64 rtk, .bool rtp, .int .i64 rpd] 24)).heap[w55.heap.size]? = some (.cells #[.slice Av rd.length cv, .int .i64 rps, .bool rpp, .int .i64 rtk, .bool rtp, .int .i64 rpd] 24 (0, 0)) := heap_alloc_new _ _
      obtain ⟨mv0, mv1, mv2, mv3, mv4, mv5⟩ := cells6 rv
      have s74 : w55.heap.size < (w55.alloc (.cells #[.slice Av rd.length cv, .int .i64 rps, .bool rpp, .int .i64 rtk, .bool rtp, .int .i64 rpd] 24)).heap.size := Nat.lt_of_lt_of_eq (Nat.lt_succ_self _) (World.size_alloc _ _).symm
      go_wp2_with fail
      clear k56 k57 k58 k59 k60 k61 k62 k63 k64 k65 k66 k67 k68 k69 k70 k71 k72 k73
      generalize (w55.alloc (.cells #[.slice Av rd.length cv, .int .i64 rps, .bool rpp, .int .i64 rtk, .bool rtp, .int .i64 rpd] 24)) = u74 at *
      refine (eqAnswers_t _ _ _ _ _ _ _ _ _ _ _ _ _ _ _ ov.sees os.sees (by omega) (by omega)).mono ?_
      rintro e w75 ⟨rfl, b75⟩
      have s75 := b75.size
      replace os := os.below b75
      replace og := og.below b75
      replace ov := ov.below b75
      replace h := h.below b75 hB.size
      replace ra := rowKeep ra b75
      clear ma0 ma1 ma2 ma3 ma4 ma5
      obtain ⟨ma0, ma1, ma2, ma3, ma4, ma5⟩ := cells6 ra
      replace rs := rowKeep rs b75
      clear ms0 ms1 ms2 ms3 ms4 ms5
      obtain ⟨ms0, ms1, ms2, ms3, ms4, ms5⟩ := cells6 rs
      replace rg := rowKeep rg b75
      clear mg0 mg1 mg2 mg3 mg4 mg5
      obtain ⟨mg0, mg1, mg2, mg3, mg4, mg5⟩ := cells6 rg
      replace rv := rowKeep rv b75
      clear mv0 mv1 mv2 mv3 mv4 mv5
      obtain ⟨mv0, mv1, mv2, mv3, mv4, mv5⟩ := cells6 rv
      replace hB := below_later hB b75 (Nat.le_refl _)
      clear b75
      go_wp2_with fail
      refine (heldAnswers_any _ _ _ _ _ _ _ _ _ 1 _ og.sees (by omega) (by omega) (by omega)).mono ?_
      rintro e w76 ⟨rfl, b76⟩
      have s76 := b76.size
      replace os := os.below b76
      replace og := og.below b76
      replace ov := ov.below b76
      replace h := h.below b76 hB.size
      replace ra := rowKeep ra b76
      clear ma0 ma1 ma2 ma3 ma4 ma5
      obtain ⟨ma0, ma1, ma2, ma3, ma4, ma5⟩ := cells6 ra
      replace rs := rowKeep rs b76
      clear ms0 ms1 ms2 ms3 ms4 ms5
      obtain ⟨ms0, ms1, ms2, ms3, ms4, ms5⟩ := cells6 rs
      replace rg := rowKeep rg b76
      clear mg0 mg1 mg2 mg3 mg4 mg5
      obtain ⟨mg0, mg1, mg2, mg3, mg4, mg5⟩ := cells6 rg
      replace rv := rowKeep rv b76
      clear mv0 mv1 mv2 mv3 mv4 mv5
      obtain ⟨mv0, mv1, mv2, mv3, mv4, mv5⟩ := cells6 rv
      replace hB := below_later hB b76 (Nat.le_refl _)
      clear b76
      go_wp2_with fail
      go_ret
      exact ⟨rfl, hB⟩
    exact AllReadyH.nil
  exact AllReadyH.nil
end Go.Proofs.Ythkiollagnjfaaa
