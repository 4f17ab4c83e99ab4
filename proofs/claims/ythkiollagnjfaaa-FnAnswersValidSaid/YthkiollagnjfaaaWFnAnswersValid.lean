/-
  Walk: the law FnAnswersValid returns true.
-/
import Derived.Deep.DeepCutAuto
import Derived.Deep.RegionHeld3
import Derived.IntWalk
import Derived.Test.YthkiollagnjfaaaN14
import Derived.Test.YthkiollagnjfaaaN5
import Derived.Test.YthkiollagnjfaaaN12
import Derived.Test.YthkiollagnjfaaaS3
import Derived.Test.YthkiollagnjfaaaA
namespace Go.Proofs.Ythkiollagnjfaaa
open Go.RowKit
set_option linter.unusedSimpArgs false
set_option linter.unusedVariables false
set_option maxHeartbeats 8000000 in
theorem law_FnAnswersValid (w : World) (A : Option Addr) (n c : Nat) (bs : List Int) (h : Sees w w.heap.size 1 A n c (byts bs)) (hb : ∀ v ∈ bs, 0 ≤ v ∧ v ≤ 255) :
    Calls Try.prog 6 #[.slice A n c] w (RetPure w (.bool true)) := by
  have hc1 := h.cap
  have hc2 := h.big
  by_cases hn : 1048576 < n
  · go_enter Try.func6, Try.ntmps6
    go_wp2_with fail
    go_ret
    exact ⟨rfl, Below.refl _ _⟩
  have hB : Below w.heap.size w w := Below.refl _ _
  go_enter Try.func6, Try.ntmps6
  go_wp2_with fail
  refine (drawAnswersValid_any _ _ _ _ _ _ h (Nat.le_refl _) hb).mono ?_
  rintro e w1 ⟨At, ct, d, ps, pp, tk, tp, pd, rfl, ⟨ot, hd17⟩, b1⟩
  have s1 := b1.size
  replace hB := below_later hB b1 (Nat.le_refl _)
  clear b1
  clear h hb
  have hct := ot.cap
  have hn2 := below_new w1 (.cells #[.slice At d.length ct, .int .i64 ps, .bool pp, .int .i64 tk, .bool tp, .int .i64 pd] 24)
  replace ot := ot.below hn2
  replace hB := below_later hB hn2 (Nat.le_refl _)
  clear hn2
  have rt : (w1.alloc (.cells #[.slice At d.length ct, .int .i64 ps, .bool pp, .int .i64 tk, .bool tp, .int .i64 pd] 24)).heap[w1.heap.size]? = some (.cells #[.slice At d.length ct, .int .i64 ps, .bool pp, .int .i64 tk, .bool tp, .int .i64 pd] 24 (0, 0)) := heap_alloc_new _ _
  obtain ⟨mt0, mt1, mt2, mt3, mt4, mt5⟩ := cells6 rt
  have s2 : w1.heap.size < (w1.alloc (.cells #[.slice At d.length ct, .int .i64 ps, .bool pp, .int .i64 tk, .bool tp, .int .i64 pd] 24)).heap.size := Nat.lt_of_lt_of_eq (Nat.lt_succ_self _) (World.size_alloc _ _).symm
  obtain ⟨i0, hi0, hz0, hz1, hz2⟩ := info_parts ans_info
  cases hv : aval ⟨d, ps, pp, tk, tp, pd⟩
  · have HV := Lib.hid hv
    clear hv
    go_wp2_with fail
    generalize (w1.alloc (.cells #[.slice At d.length ct, .int .i64 ps, .bool pp, .int .i64 tk, .bool tp, .int .i64 pd] 24)) = u2 at *
    have q := implAnswersValid_any At d.length ct _ d ps pp tk tp pd u2 ot.sees (by omega)
    rw [HV.out] at q
    refine q.mono ?_
    clear q
    rintro e w3 ⟨rfl, b3⟩
    have s3 := b3.size
    replace ot := ot.below b3
    replace rt := rowKeep rt b3
    clear mt0 mt1 mt2 mt3 mt4 mt5
    obtain ⟨mt0, mt1, mt2, mt3, mt4, mt5⟩ := cells6 rt
    replace hB := below_later hB b3 (Nat.le_refl _)
    clear b3
    go_wp2_with fail
    have q := specAnswersValid_any At d.length ct _ d ps pp tk tp pd w3 ot.sees (by omega)
    rw [HV.out] at q
    refine q.mono ?_
    clear q
    rintro e w4 ⟨rfl, b4⟩
    have s4 := b4.size
    replace ot := ot.below b4
    replace rt := rowKeep rt b4
    clear mt0 mt1 mt2 mt3 mt4 mt5
    obtain ⟨mt0, mt1, mt2, mt3, mt4, mt5⟩ := cells6 rt
    replace hB := below_later hB b4 (Nat.le_refl _)
    clear b4
    go_wp2_with fail
    refine (alive_any _).mono ?_
    rintro e w5 ⟨rfl, b5⟩
    have s5 := b5.size
    replace ot := ot.below b5
    replace rt := rowKeep rt b5
    clear mt0 mt1 mt2 mt3 mt4 mt5
    obtain ⟨mt0, mt1, mt2, mt3, mt4, mt5⟩ := cells6 rt
    replace hB := below_later hB b5 (Nat.le_refl _)
    clear b5
    go_wp2_with fail
    go_ret
    exact ⟨rfl, hB⟩
  · have HV := Lib.hid hv
    obtain ⟨⟨v1, v2⟩, ⟨v3, v4⟩, ⟨v5, v6⟩⟩ := aval_bd _ _ _ _ _ _ hv
    have HM := Lib.hid (show aval ⟨d, ps, pp, tk, tp, pd + 1⟩ = false from aval_more _ hv)
    obtain ⟨x0, p0, l0, hd0⟩ : ∃ x0 p0 l0, d = (x0, p0) :: l0 := by
        cases d with
        | nil => simp at v1
        | cons e l => exact ⟨e.1, e.2, l, rfl⟩
    have hfl := aval_flip _ hv x0 p0 l0 hd0
    simp only at hfl
    have hset : d.set 0 (x0, !p0) = (x0, !p0) :: l0 := by rw [hd0]; rfl
    rw [← hset] at hfl
    have hd1 : d[0] = (x0, p0) := by simp [hd0]
    have HF := Lib.hid hfl
    have HD := Lib.hid hd1
    clear hv hfl hset hd0 hd1
    go_wp2_with fail
    generalize (w1.alloc (.cells #[.slice At d.length ct, .int .i64 ps, .bool pp, .int .i64 tk, .bool tp, .int .i64 pd] 24)) = u2 at *
    have q := implAnswersValid_any At d.length ct _ d ps pp tk tp pd u2 ot.sees (by omega)
    rw [HV.out] at q
    refine q.mono ?_
    clear q
    rintro e w3 ⟨rfl, b3⟩
    have s3 := b3.size
    replace ot := ot.below b3
    replace rt := rowKeep rt b3
    clear mt0 mt1 mt2 mt3 mt4 mt5
    obtain ⟨mt0, mt1, mt2, mt3, mt4, mt5⟩ := cells6 rt
    replace hB := below_later hB b3 (Nat.le_refl _)
    clear b3
    go_wp2_with fail
    have q := specAnswersValid_any At d.length ct _ d ps pp tk tp pd w3 ot.sees (by omega)
    rw [HV.out] at q
    refine q.mono ?_
    clear q
    rintro e w4 ⟨rfl, b4⟩
    have s4 := b4.size
    replace ot := ot.below b4
    replace rt := rowKeep rt b4
    clear mt0 mt1 mt2 mt3 mt4 mt5
    obtain ⟨mt0, mt1, mt2, mt3, mt4, mt5⟩ := cells6 rt
    replace hB := below_later hB b4 (Nat.le_refl _)
    clear b4
    have k5 := mt0
    have k6 := mt1
    have k7 := mt2
    have k8 := mt3
    have k9 := mt4
    have k10 := mt5
    have hn11 := below_new w4 (.cells #[.slice At d.length ct, .int .i64 ps, .bool pp, .int .i64 tk, .bool tp, .int .i64 pd] 24)
    replace ot := ot.below hn11
    replace rt := rowKeep rt hn11
    clear mt0 mt1 mt2 mt3 mt4 mt5
    obtain ⟨mt0, mt1, mt2, mt3, mt4, mt5⟩ := cells6 rt
    replace hB := below_later hB hn11 (Nat.le_refl _)
    clear hn11
    have rb : (w4.alloc (.cells #[.slice At d.length ct, .int .i64 ps, .bool pp, .int .i64 tk, .bool tp, .int .i64 pd] 24)).heap[w4.heap.size]? = some (.cells #[.slice At d.length ct, .int .i64 ps, .bool pp, .int .i64 tk, .bool tp, .int .i64 pd] 24 (0, 0)) := heap_alloc_new _ _
    obtain ⟨mb0, mb1, mb2, mb3, mb4, mb5⟩ := cells6 rb
    have s11 : w4.heap.size < (w4.alloc (.cells #[.slice At d.length ct, .int .i64 ps, .bool pp, .int .i64 tk, .bool tp, .int .i64 pd] 24)).heap.size := Nat.lt_of_lt_of_eq (Nat.lt_succ_self _) (World.size_alloc _ _).symm
    go_upto_region 10 with fail
    clear k5 k6 k7 k8 k9 k10
    generalize (w4.alloc (.cells #[.slice At d.length ct, .int .i64 ps, .bool pp, .int .i64 tk, .bool tp, .int .i64 pd] 24)) = u11 at *
    have rt2 := rowKeep rt (below_new u11 (.cells #[] 46))
    have nt2 := (cells6 rt2).1
    clear rt2
    go_upto_region 11 with (at_builtin; refine wpList_app _ rfl (.tmp 22) (.tmp 24) _ (by rfl) 46 i0 (.agg #[.int .i64 0, .bool false]) 2 16 Try.underlying22 hi0 hz0 hz1 hz2 rfl (by decide) _ _ _ 0 0 [] (by rfl) (newEmpty u11 46 2) _ _ _ _ _ (by rfl) (ot.below (below_new u11 (.cells #[] 46))).sees (ansC_one _) (by omega) (by omega) (by simp) ?_; intro A2 c2 w12 o2 f12; simp only [Nat.zero_add, List.nil_append] at o2; have g12 := below_new u11 (.cells #[] 46); have s12 := f12.size_alloc; replace ot := (ot.below g12).fr f12 (by omega); replace rt := rowFr (rowKeep rt g12) f12 (by omega); replace rb := rowFr (rowKeep rb g12) f12 (by omega); clear mt0 mt1 mt2 mt3 mt4 mt5 mb0 mb1 mb2 mb3 mb4 mb5; obtain ⟨mt0, mt1, mt2, mt3, mt4, mt5⟩ := cells6 rt; obtain ⟨mb0, mb1, mb2, mb3, mb4, mb5⟩ := cells6 rb; replace hB := f12.below (below_later hB g12 (Nat.le_refl _)) (by omega) (Nat.le_refl _); clear f12 g12; have zb := frzRow rb 0; have hA2 := o2.head (by omega); obtain ⟨g2, hA, hg1, hg2, hg3⟩ := hA2; subst hA; replace rb : (w12.setCell ⟨w4.heap.size, 0, none⟩ (.slice (some ⟨g2, 0, none⟩) d.length c2)).heap[w4.heap.size]? = some (.cells #[.slice (some ⟨g2, 0, none⟩) d.length c2, .int .i64 ps, .bool pp, .int .i64 tk, .bool tp, .int .i64 pd] 24 (0, 0)) := put0 rb _; replace rt := rowSet rt ⟨w4.heap.size, 0, none⟩ (.slice (some ⟨g2, 0, none⟩) d.length c2) (by show _ ≠ w4.heap.size; omega); replace ot := ot.setOther ⟨w4.heap.size, 0, none⟩ (.slice (some ⟨g2, 0, none⟩) d.length c2) (by show w4.heap.size < _ ∨ _ ≤ w4.heap.size; omega); replace o2 := o2.setOther ⟨w4.heap.size, 0, none⟩ (.slice (some ⟨g2, 0, none⟩) d.length c2) (by show w4.heap.size < _ ∨ _ ≤ w4.heap.size; omega); replace hB := hB.setCell (p := ⟨w4.heap.size, 0, none⟩) (by show _ ≤ w4.heap.size; omega) (.slice (some ⟨g2, 0, none⟩) d.length c2); have s122 : w12.heap.size ≤ (w12.setCell ⟨w4.heap.size, 0, none⟩ (.slice (some ⟨g2, 0, none⟩) d.length c2)).heap.size := Nat.le_of_eq (World.size_setCell _ _ _).symm; clear nt2)
    clear mt0 mt1 mt2 mt3 mt4 mt5 mb0 mb1 mb2 mb3 mb4 mb5 zb
    generalize (w12.setCell ⟨w4.heap.size, 0, none⟩ (.slice (some ⟨g2, 0, none⟩) d.length c2)) = u12 at *
    obtain ⟨mt0, mt1, mt2, mt3, mt4, mt5⟩ := cells6 rt
    obtain ⟨mb0, mb1, mb2, mb3, mb4, mb5⟩ := cells6 rb
    have j1 : 0 < d.length := by omega
    have j2 : (0 : Int) < (d.length : Int) := by omega
    have hn13 : Below u12.heap.size u12 u12.drew := below_drewN (Below.refl _ _) 1
    have s13 : u12.heap.size ≤ u12.drew.heap.size := Nat.le_refl _
    replace ot := ot.below hn13
    replace o2 := o2.below hn13
    replace rt := rowKeep rt hn13
    clear mt0 mt1 mt2 mt3 mt4 mt5
    obtain ⟨mt0, mt1, mt2, mt3, mt4, mt5⟩ := cells6 rt
    replace rb := rowKeep rb hn13
    clear mb0 mb1 mb2 mb3 mb4 mb5
    obtain ⟨mb0, mb1, mb2, mb3, mb4, mb5⟩ := cells6 rb
    replace hB := below_later hB hn13 (Nat.le_refl _)
    clear hn13
    refine wp_region_noPanic ?_
    refine wp_region_held_drew (S := fun w' => w'.cell? ⟨w1.heap.size, 0, none⟩ = some (.slice At d.length ct) ∧ w'.cell? ⟨w1.heap.size, 1, none⟩ = some (.int .i64 ps) ∧ w'.cell? ⟨w1.heap.size, 2, none⟩ = some (.bool pp) ∧ w'.cell? ⟨w1.heap.size, 3, none⟩ = some (.int .i64 tk) ∧ w'.cell? ⟨w1.heap.size, 4, none⟩ = some (.bool tp) ∧ w'.cell? ⟨w1.heap.size, 5, none⟩ = some (.int .i64 pd) ∧ w'.cell? ⟨w4.heap.size, 0, none⟩ = some (.slice (some ⟨g2, 0, none⟩) d.length c2) ∧ w'.cell? ⟨w4.heap.size, 1, none⟩ = some (.int .i64 ps) ∧ w'.cell? ⟨w4.heap.size, 2, none⟩ = some (.bool pp) ∧ w'.cell? ⟨w4.heap.size, 3, none⟩ = some (.int .i64 tk) ∧ w'.cell? ⟨w4.heap.size, 4, none⟩ = some (.bool tp) ∧ w'.cell? ⟨w4.heap.size, 5, none⟩ = some (.int .i64 pd)) (by kernel_rfl) ⟨mt0, mt1, mt2, mt3, mt4, mt5, mb0, mb1, mb2, mb3, mb4, mb5⟩ (fun hHeld => ?_)
    generalize u12.drew = u13 at *
    refine wpAnyH_take (i := 0) (v := ?_) rfl (by kernel_rfl) (by kernel_rfl) (by kernel_rfl) (fun _ _ _ h => h) (Or.inl ⟨by rfl, ?_⟩) (by assumption) ?_
    rotate_left
    · (intro wz hSw; (try dsimp only at hSw); go_simp; try with_reducible rfl)
    simp only [Act.put, List.getElem_toArray, List.getElem_cons_zero, List.getElem_cons_succ, List.setIfInBounds_toArray, List.set_cons_zero, List.set_cons_succ]
    refine wpAnyH_take (i := 1) (v := ?_) rfl (by kernel_rfl) (by kernel_rfl) (by kernel_rfl) (fun _ _ _ h => h) (Or.inl ⟨by rfl, ?_⟩) (by assumption) ?_
    rotate_left
    · (intro wz hSw; (try dsimp only at hSw); go_simp; try with_reducible rfl)
    simp only [Act.put, List.getElem_toArray, List.getElem_cons_zero, List.getElem_cons_succ, List.setIfInBounds_toArray, List.set_cons_zero, List.set_cons_succ]
    refine wpAnyH_take (i := 2) (v := ?_) rfl (by kernel_rfl) (by kernel_rfl) (by kernel_rfl) (fun _ _ _ h => h) (Or.inl ⟨by rfl, ?_⟩) (by assumption) ?_
    rotate_left
    · (intro wz hSw; (try dsimp only at hSw); go_simp; try with_reducible rfl)
    simp only [Act.put, List.getElem_toArray, List.getElem_cons_zero, List.getElem_cons_succ, List.setIfInBounds_toArray, List.set_cons_zero, List.set_cons_succ]
    refine wpAnyH_take (i := 3) (v := ?_) rfl (by kernel_rfl) (by kernel_rfl) (by kernel_rfl) (fun _ _ _ h => h) (Or.inl ⟨by rfl, ?_⟩) (by assumption) ?_
    rotate_left
    · (intro wz hSw; (try dsimp only at hSw); go_simp; try with_reducible rfl)
    simp only [Act.put, List.getElem_toArray, List.getElem_cons_zero, List.getElem_cons_succ, List.setIfInBounds_toArray, List.set_cons_zero, List.set_cons_succ]
    refine wpAnyH_take (i := 4) (v := ?_) rfl (by kernel_rfl) (by kernel_rfl) (by kernel_rfl) (fun _ _ _ h => h) (Or.inl ⟨by rfl, ?_⟩) (by assumption) ?_
    rotate_left
    · (intro wz hSw; (try dsimp only at hSw); go_simp; try with_reducible rfl)
    simp only [Act.put, List.getElem_toArray, List.getElem_cons_zero, List.getElem_cons_succ, List.setIfInBounds_toArray, List.set_cons_zero, List.set_cons_succ]
    refine wpAnyH_take (i := 5) (v := ?_) rfl (by kernel_rfl) (by kernel_rfl) (by kernel_rfl) (fun _ _ _ h => h) (Or.inl ⟨by rfl, ?_⟩) (by assumption) ?_
    rotate_left
    · (intro wz hSw; (try dsimp only at hSw); go_simp; try with_reducible rfl)
    simp only [Act.put, List.getElem_toArray, List.getElem_cons_zero, List.getElem_cons_succ, List.setIfInBounds_toArray, List.set_cons_zero, List.set_cons_succ]
    refine wpAnyH_ready (rs := [6]) (by kernel_rfl) (by simp) ?_
    refine AllReadyH.cons rfl (fun K hK => ?_) ?_
    · have hx1 := (o2.sees.ans_c 0 (by omega)).2
      rw [HD.out] at hx1
      simp only [Nat.zero_mul, Nat.zero_add] at hx1
      go_simp
      clear hx1
      refine hK.out _ _ ⟨mt0, mt1, mt2, mt3, mt4, mt5, mb0, mb1, mb2, mb3, mb4, mb5⟩ (fun hHeld => ?_)
      clear hK K
      try simp only [Act.put, List.getElem_toArray, List.getElem_cons_zero, List.getElem_cons_succ, List.setIfInBounds_toArray, List.set_cons_zero, List.set_cons_succ]
      refine wpAnyH_take (i := 7) (v := ?_) rfl (by kernel_rfl) (by kernel_rfl) (by kernel_rfl) (fun _ _ _ h => h) (Or.inl ⟨by rfl, ?_⟩) (by assumption) ?_
      rotate_left
      · (intro wz hSw; (try dsimp only at hSw); go_simp; try with_reducible rfl)
      simp only [Act.put, List.getElem_toArray, List.getElem_cons_zero, List.getElem_cons_succ, List.setIfInBounds_toArray, List.set_cons_zero, List.set_cons_succ]
      refine wpAnyH_take (i := 8) (v := ?_) rfl (by kernel_rfl) (by kernel_rfl) (by kernel_rfl) (fun _ _ _ h => h) (Or.inl ⟨by rfl, ?_⟩) (by assumption) ?_
      rotate_left
      · (intro wz hSw; (try dsimp only at hSw); go_simp; try with_reducible rfl)
      simp only [Act.put, List.getElem_toArray, List.getElem_cons_zero, List.getElem_cons_succ, List.setIfInBounds_toArray, List.set_cons_zero, List.set_cons_succ]
      refine wpAnyH_take (i := 9) (v := ?_) rfl (by kernel_rfl) (by kernel_rfl) (by kernel_rfl) (fun _ _ _ h => h) (Or.inl ⟨by rfl, ?_⟩) (by assumption) ?_
      rotate_left
      · (intro wz hSw; (try dsimp only at hSw); go_simp; try with_reducible rfl)
      simp only [Act.put, List.getElem_toArray, List.getElem_cons_zero, List.getElem_cons_succ, List.setIfInBounds_toArray, List.set_cons_zero, List.set_cons_succ]
      refine wpAnyH_ready (rs := [10]) (by kernel_rfl) (by simp) ?_
      refine AllReadyH.cons rfl (fun K hK => ?_) ?_
      · have hx1 := (o2.sees.ans_c 0 (by omega)).2
        rw [HD.out] at hx1
        simp only [Nat.zero_mul, Nat.zero_add] at hx1
        have z1 := o2.frozen rfl 1
        clear mt0 mt1 mt2 mt3 mt4 mt5 mb0 mb1 mb2 mb3 mb4 mb5
        replace rt := rowSet rt ⟨g2, 1, none⟩ (.bool (!p0)) (by show _ ≠ g2; omega)
        replace rb := rowSet rb ⟨g2, 1, none⟩ (.bool (!p0)) (by show _ ≠ g2; omega)
        replace ot := ot.setOther ⟨g2, 1, none⟩ (.bool (!p0)) (by show g2 < _ ∨ _ ≤ g2; omega)
        replace o2 := o2.set rfl 1 (.bool (!p0))
        have hfp := ansC_flip d 0 (by omega) x0 p0 HD.out
        simp only [Nat.zero_mul, Nat.zero_add] at hfp
        rw [hfp] at o2
        clear hfp
        replace hB := hB.setCell (p := ⟨g2, 1, none⟩) (by show _ ≤ g2; omega) (.bool (!p0))
        have s14 : u13.heap.size ≤ (u13.setCell ⟨g2, 1, none⟩ (.bool (!p0))).heap.size := Nat.le_of_eq (World.size_setCell _ _ _).symm
        obtain ⟨mt0, mt1, mt2, mt3, mt4, mt5⟩ := cells6 rt
        obtain ⟨mb0, mb1, mb2, mb3, mb4, mb5⟩ := cells6 rb
        go_simp
        clear hx1 z1
        refine hK.out _ _ ⟨mt0, mt1, mt2, mt3, mt4, mt5, mb0, mb1, mb2, mb3, mb4, mb5⟩ (fun hHeld => ?_)
        clear hK K
        try simp only [Act.put, List.getElem_toArray, List.getElem_cons_zero, List.getElem_cons_succ, List.setIfInBounds_toArray, List.set_cons_zero, List.set_cons_succ]
        refine wpAnyH_done (by kernel_rfl) ?_ _
        refine NoPanic.normal ?_
        generalize (u13.setCell ⟨g2, 1, none⟩ (.bool (!p0))) = u15 at *
        have e1 : IntKind.i64.wrap (pd + 1) = pd + 1 := IntWalk.i64_in _ (by omega)
        have hl3 : (d.set 0 (x0, !p0)).length = d.length := List.length_set
        have HL := Lib.hid hl3
        clear hl3
        have k16 := mt0
        have k17 := mt1
        have k18 := mt2
        have k19 := mt3
        have k20 := mt4
        have k21 := mt5
        have k22 := mb0
        have k23 := mb1
        have k24 := mb2
        have k25 := mb3
        have k26 := mb4
        have k27 := mb5
        have hn28 := below_new u15 (.cells #[.slice At d.length ct, .int .i64 ps, .bool pp, .int .i64 tk, .bool tp, .int .i64 pd] 24)
        replace ot := ot.below hn28
        replace o2 := o2.below hn28
        replace rt := rowKeep rt hn28
        clear mt0 mt1 mt2 mt3 mt4 mt5
        obtain ⟨mt0, mt1, mt2, mt3, mt4, mt5⟩ := cells6 rt
        replace rb := rowKeep rb hn28
        clear mb0 mb1 mb2 mb3 mb4 mb5
        obtain ⟨mb0, mb1, mb2, mb3, mb4, mb5⟩ := cells6 rb
        replace hB := below_later hB hn28 (Nat.le_refl _)
        clear hn28
        have rc : (u15.alloc (.cells #[.slice At d.length ct, .int .i64 ps, .bool pp, .int .i64 tk, .bool tp, .int .i64 pd] 24)).heap[u15.heap.size]? = some (.cells #[.slice At d.length ct, .int .i64 ps, .bool pp, .int .i64 tk, .bool tp, .int .i64 pd] 24 (0, 0)) := heap_alloc_new _ _
        obtain ⟨mc0, mc1, mc2, mc3, mc4, mc5⟩ := cells6 rc
        have s28 : u15.heap.size < (u15.alloc (.cells #[.slice At d.length ct, .int .i64 ps, .bool pp, .int .i64 tk, .bool tp, .int .i64 pd] 24)).heap.size := Nat.lt_of_lt_of_eq (Nat.lt_succ_self _) (World.size_alloc _ _).symm
        go_upto_region 13 with fail
        clear k16 k17 k18 k19 k20 k21 k22 k23 k24 k25 k26 k27
        generalize (u15.alloc (.cells #[.slice At d.length ct, .int .i64 ps, .bool pp, .int .i64 tk, .bool tp, .int .i64 pd] 24)) = u28 at *
        have k29 := mt0
        have k30 := mt1
        have k31 := mt2
        have k32 := mt3
        have k33 := mt4
        have k34 := mt5
        have k35 := mb0
        have k36 := mb1
        have k37 := mb2
        have k38 := mb3
        have k39 := mb4
        have k40 := mb5
        have k41 := mc0
        have k42 := mc1
        have k43 := mc2
        have k44 := mc3
        have k45 := mc4
        have k46 := mc5
        have z47 := frzRow rc 5
        replace rt := rowSet rt ⟨u15.heap.size, 5, none⟩ (.int .i64 (pd + 1)) (by show _ ≠ u15.heap.size; omega)
        clear mt0 mt1 mt2 mt3 mt4 mt5
        replace rb := rowSet rb ⟨u15.heap.size, 5, none⟩ (.int .i64 (pd + 1)) (by show _ ≠ u15.heap.size; omega)
        clear mb0 mb1 mb2 mb3 mb4 mb5
        replace rc := put5 rc (.int .i64 (pd + 1))
        clear mc0 mc1 mc2 mc3 mc4 mc5
        replace ot := ot.setOther ⟨u15.heap.size, 5, none⟩ (.int .i64 (pd + 1)) (by show u15.heap.size < _ ∨ _ ≤ u15.heap.size; omega)
        replace o2 := o2.setOther ⟨u15.heap.size, 5, none⟩ (.int .i64 (pd + 1)) (by show u15.heap.size < _ ∨ _ ≤ u15.heap.size; omega)
        replace hB := hB.setCell (p := ⟨u15.heap.size, 5, none⟩) (by show _ ≤ u15.heap.size; omega) (.int .i64 (pd + 1))
        have s47 : u28.heap.size ≤ (u28.setCell ⟨u15.heap.size, 5, none⟩ (.int .i64 (pd + 1))).heap.size := Nat.le_of_eq (World.size_setCell _ _ _).symm
        obtain ⟨mt0, mt1, mt2, mt3, mt4, mt5⟩ := cells6 rt
        obtain ⟨mb0, mb1, mb2, mb3, mb4, mb5⟩ := cells6 rb
        obtain ⟨mc0, mc1, mc2, mc3, mc4, mc5⟩ := cells6 rc
        go_wp2_with fail
        clear k29 k30 k31 k32 k33 k34 k35 k36 k37 k38 k39 k40 k41 k42 k43 k44 k45 k46 z47
        generalize (u28.setCell ⟨u15.heap.size, 5, none⟩ (.int .i64 (pd + 1))) = u47 at *
        have o3 := o2
        rw [← HL.out] at o3
        have q := implAnswersValid_any (some ⟨g2, 0, none⟩) (d.set 0 (x0, !p0)).length c2 _ (d.set 0 (x0, !p0)) ps pp tk tp pd u47 o3.sees (by omega)
        rw [HF.out] at q
        rw [HL.out] at q
        clear o3
        refine q.mono ?_
        clear q
        rintro e w48 ⟨rfl, b48⟩
        have s48 := b48.size
        replace ot := ot.below b48
        replace o2 := o2.below b48
        replace rt := rowKeep rt b48
        clear mt0 mt1 mt2 mt3 mt4 mt5
        obtain ⟨mt0, mt1, mt2, mt3, mt4, mt5⟩ := cells6 rt
        replace rb := rowKeep rb b48
        clear mb0 mb1 mb2 mb3 mb4 mb5
        obtain ⟨mb0, mb1, mb2, mb3, mb4, mb5⟩ := cells6 rb
        replace rc := rowKeep rc b48
        clear mc0 mc1 mc2 mc3 mc4 mc5
        obtain ⟨mc0, mc1, mc2, mc3, mc4, mc5⟩ := cells6 rc
        replace hB := below_later hB b48 (Nat.le_refl _)
        clear b48
        go_wp2_with fail
        have q := implAnswersValid_any At d.length ct _ d ps pp tk tp (pd + 1) w48 ot.sees (by omega)
        rw [HM.out] at q
        refine q.mono ?_
        clear q
        rintro e w49 ⟨rfl, b49⟩
        have s49 := b49.size
        replace ot := ot.below b49
        replace o2 := o2.below b49
        replace rt := rowKeep rt b49
        clear mt0 mt1 mt2 mt3 mt4 mt5
        obtain ⟨mt0, mt1, mt2, mt3, mt4, mt5⟩ := cells6 rt
        replace rb := rowKeep rb b49
        clear mb0 mb1 mb2 mb3 mb4 mb5
        obtain ⟨mb0, mb1, mb2, mb3, mb4, mb5⟩ := cells6 rb
        replace rc := rowKeep rc b49
        clear mc0 mc1 mc2 mc3 mc4 mc5
        obtain ⟨mc0, mc1, mc2, mc3, mc4, mc5⟩ := cells6 rc
        replace hB := below_later hB b49 (Nat.le_refl _)
        clear b49
        go_wp2_with fail
        go_ret
        exact ⟨rfl, hB⟩
      exact AllReadyH.nil
    exact AllReadyH.nil
end Go.Proofs.Ythkiollagnjfaaa
