/-
  Walk: TakeAnswer of the reference.
-/
import Derived.Test.YthkiollagnjfaaaN8
import Derived.Deep.RegionHeld3
namespace Go.Proofs.Ythkiollagnjfaaa
open Go.RowKit
set_option linter.unusedSimpArgs false
set_option linter.unusedVariables false
theorem Sees.ans_c {w : World} {B n c b o : Nat} {l : List (Int × Bool)} (h : Sees w B 2 (some ⟨b, o, none⟩) n c (ansC l)) (k : Nat) (hk : k < l.length) : w.cell? ⟨b, o + k * 2, none⟩ = some (.int .i64 l[k].1) ∧ w.cell? ⟨b, o + k * 2 + 1, none⟩ = some (.bool l[k].2) := by
  obtain ⟨b', o', e, _, hc⟩ := h.ans_at (by have := h.ans; omega)
  injection e with e
  injection e with e1 e2
  subst e1 e2
  exact hc k hk
set_option maxHeartbeats 4000000 in
theorem specTakeAnswer_any (A : Option Addr) (n c B : Nat) (d : List (Int × Bool)) (ps : Int) (pp : Bool) (tk : Int) (tp : Bool) (pd : Int) (w : World) (h : Sees w B 2 A n c (ansC d)) (hle : B ≤ w.heap.size) :
    Calls Try.prog 28 #[.agg #[.slice A n c, .int .i64 ps, .bool pp, .int .i64 tk, .bool tp, .int .i64 pd]] w (RetF w 46 2 (atake ⟨d, ps, pp, tk, tp, pd⟩).ents.length (ansC (atake ⟨d, ps, pp, tk, tp, pd⟩).ents) (takeV ⟨d, ps, pp, tk, tp, pd⟩)) := by
  obtain rfl := h.ans
  have hc1 := h.cap
  have hc2 := h.big
  have hB : Below w.heap.size w w := Below.refl _ _
  cases hv : aval ⟨d, ps, pp, tk, tp, pd⟩
  · have HP := Lib.hid (atake_no _ hv)
    have HV := Lib.hid hv
    clear hv
    have hn1 := below_new w (.cells #[.slice A d.length c, .int .i64 ps, .bool pp, .int .i64 tk, .bool tp, .int .i64 pd] 24)
    replace h := h.below hn1 (by omega)
    replace hB := below_later hB hn1 (by omega)
    clear hn1
    have s1 : w.heap.size < (w.alloc (.cells #[.slice A d.length c, .int .i64 ps, .bool pp, .int .i64 tk, .bool tp, .int .i64 pd] 24)).heap.size := Nat.lt_of_lt_of_eq (Nat.lt_succ_self _) (World.size_alloc _ _).symm
    have ra : (w.alloc (.cells #[.slice A d.length c, .int .i64 ps, .bool pp, .int .i64 tk, .bool tp, .int .i64 pd] 24)).heap[w.heap.size]? = some (.cells #[.slice A d.length c, .int .i64 ps, .bool pp, .int .i64 tk, .bool tp, .int .i64 pd] 24 (0, 0)) := by have q := heap_alloc_new w (.cells #[.slice A d.length c, .int .i64 ps, .bool pp, .int .i64 tk, .bool tp, .int .i64 pd] 24); (try simp only [World.size_alloc, World.size_setCell] at q); exact q
    have ma1_0 : (w.alloc (.cells #[.slice A d.length c, .int .i64 ps, .bool pp, .int .i64 tk, .bool tp, .int .i64 pd] 24)).cell? ⟨w.heap.size, 0, none⟩ = some (.slice A d.length c) := cell_of_row _ _ 0 _ _ _ ra
    have ma1_1 : (w.alloc (.cells #[.slice A d.length c, .int .i64 ps, .bool pp, .int .i64 tk, .bool tp, .int .i64 pd] 24)).cell? ⟨w.heap.size, 1, none⟩ = some (.int .i64 ps) := cell_of_row _ _ 1 _ _ _ ra
    have ma1_2 : (w.alloc (.cells #[.slice A d.length c, .int .i64 ps, .bool pp, .int .i64 tk, .bool tp, .int .i64 pd] 24)).cell? ⟨w.heap.size, 2, none⟩ = some (.bool pp) := cell_of_row _ _ 2 _ _ _ ra
    have ma1_3 : (w.alloc (.cells #[.slice A d.length c, .int .i64 ps, .bool pp, .int .i64 tk, .bool tp, .int .i64 pd] 24)).cell? ⟨w.heap.size, 3, none⟩ = some (.int .i64 tk) := cell_of_row _ _ 3 _ _ _ ra
    have ma1_4 : (w.alloc (.cells #[.slice A d.length c, .int .i64 ps, .bool pp, .int .i64 tk, .bool tp, .int .i64 pd] 24)).cell? ⟨w.heap.size, 4, none⟩ = some (.bool tp) := cell_of_row _ _ 4 _ _ _ ra
    have ma1_5 : (w.alloc (.cells #[.slice A d.length c, .int .i64 ps, .bool pp, .int .i64 tk, .bool tp, .int .i64 pd] 24)).cell? ⟨w.heap.size, 5, none⟩ = some (.int .i64 pd) := cell_of_row _ _ 5 _ _ _ ra
    have hn2 := below_new (w.alloc (.cells #[.slice A d.length c, .int .i64 ps, .bool pp, .int .i64 tk, .bool tp, .int .i64 pd] 24)) (.cells #[.slice none 0 0, .int .i64 0, .bool false, .int .i64 0, .bool false, .int .i64 0] 24)
    replace ra := rowKeep ra hn2
    replace h := h.below hn2 (by omega)
    replace hB := below_later hB hn2 (by omega)
    have ma2_0 : ((w.alloc (.cells #[.slice A d.length c, .int .i64 ps, .bool pp, .int .i64 tk, .bool tp, .int .i64 pd] 24)).alloc (.cells #[.slice none 0 0, .int .i64 0, .bool false, .int .i64 0, .bool false, .int .i64 0] 24)).cell? ⟨w.heap.size, 0, none⟩ = some (.slice A d.length c) := cell_of_row _ _ 0 _ _ _ ra
    have ma2_1 : ((w.alloc (.cells #[.slice A d.length c, .int .i64 ps, .bool pp, .int .i64 tk, .bool tp, .int .i64 pd] 24)).alloc (.cells #[.slice none 0 0, .int .i64 0, .bool false, .int .i64 0, .bool false, .int .i64 0] 24)).cell? ⟨w.heap.size, 1, none⟩ = some (.int .i64 ps) := cell_of_row _ _ 1 _ _ _ ra
    have ma2_2 : ((w.alloc (.cells #[.slice A d.length c, .int .i64 ps, .bool pp, .int .i64 tk, .bool tp, .int .i64 pd] 24)).alloc (.cells #[.slice none 0 0, .int .i64 0, .bool false, .int .i64 0, .bool false, .int .i64 0] 24)).cell? ⟨w.heap.size, 2, none⟩ = some (.bool pp) := cell_of_row _ _ 2 _ _ _ ra
    have ma2_3 : ((w.alloc (.cells #[.slice A d.length c, .int .i64 ps, .bool pp, .int .i64 tk, .bool tp, .int .i64 pd] 24)).alloc (.cells #[.slice none 0 0, .int .i64 0, .bool false, .int .i64 0, .bool false, .int .i64 0] 24)).cell? ⟨w.heap.size, 3, none⟩ = some (.int .i64 tk) := cell_of_row _ _ 3 _ _ _ ra
    have ma2_4 : ((w.alloc (.cells #[.slice A d.length c, .int .i64 ps, .bool pp, .int .i64 tk, .bool tp, .int .i64 pd] 24)).alloc (.cells #[.slice none 0 0, .int .i64 0, .bool false, .int .i64 0, .bool false, .int .i64 0] 24)).cell? ⟨w.heap.size, 4, none⟩ = some (.bool tp) := cell_of_row _ _ 4 _ _ _ ra
    have ma2_5 : ((w.alloc (.cells #[.slice A d.length c, .int .i64 ps, .bool pp, .int .i64 tk, .bool tp, .int .i64 pd] 24)).alloc (.cells #[.slice none 0 0, .int .i64 0, .bool false, .int .i64 0, .bool false, .int .i64 0] 24)).cell? ⟨w.heap.size, 5, none⟩ = some (.int .i64 pd) := cell_of_row _ _ 5 _ _ _ ra
    clear hn2
    have s2 : (w.alloc (.cells #[.slice A d.length c, .int .i64 ps, .bool pp, .int .i64 tk, .bool tp, .int .i64 pd] 24)).heap.size < ((w.alloc (.cells #[.slice A d.length c, .int .i64 ps, .bool pp, .int .i64 tk, .bool tp, .int .i64 pd] 24)).alloc (.cells #[.slice none 0 0, .int .i64 0, .bool false, .int .i64 0, .bool false, .int .i64 0] 24)).heap.size := Nat.lt_of_lt_of_eq (Nat.lt_succ_self _) (World.size_alloc _ _).symm
    have rr : ((w.alloc (.cells #[.slice A d.length c, .int .i64 ps, .bool pp, .int .i64 tk, .bool tp, .int .i64 pd] 24)).alloc (.cells #[.slice none 0 0, .int .i64 0, .bool false, .int .i64 0, .bool false, .int .i64 0] 24)).heap[w.heap.size + 1]? = some (.cells #[.slice none 0 0, .int .i64 0, .bool false, .int .i64 0, .bool false, .int .i64 0] 24 (0, 0)) := by have q := heap_alloc_new (w.alloc (.cells #[.slice A d.length c, .int .i64 ps, .bool pp, .int .i64 tk, .bool tp, .int .i64 pd] 24)) (.cells #[.slice none 0 0, .int .i64 0, .bool false, .int .i64 0, .bool false, .int .i64 0] 24); (try simp only [World.size_alloc, World.size_setCell] at q); exact q
    have mr1_0 : ((w.alloc (.cells #[.slice A d.length c, .int .i64 ps, .bool pp, .int .i64 tk, .bool tp, .int .i64 pd] 24)).alloc (.cells #[.slice none 0 0, .int .i64 0, .bool false, .int .i64 0, .bool false, .int .i64 0] 24)).cell? ⟨w.heap.size + 1, 0, none⟩ = some (.slice none 0 0) := cell_of_row _ _ 0 _ _ _ rr
    have mr1_1 : ((w.alloc (.cells #[.slice A d.length c, .int .i64 ps, .bool pp, .int .i64 tk, .bool tp, .int .i64 pd] 24)).alloc (.cells #[.slice none 0 0, .int .i64 0, .bool false, .int .i64 0, .bool false, .int .i64 0] 24)).cell? ⟨w.heap.size + 1, 1, none⟩ = some (.int .i64 0) := cell_of_row _ _ 1 _ _ _ rr
    have mr1_2 : ((w.alloc (.cells #[.slice A d.length c, .int .i64 ps, .bool pp, .int .i64 tk, .bool tp, .int .i64 pd] 24)).alloc (.cells #[.slice none 0 0, .int .i64 0, .bool false, .int .i64 0, .bool false, .int .i64 0] 24)).cell? ⟨w.heap.size + 1, 2, none⟩ = some (.bool false) := cell_of_row _ _ 2 _ _ _ rr
    have mr1_3 : ((w.alloc (.cells #[.slice A d.length c, .int .i64 ps, .bool pp, .int .i64 tk, .bool tp, .int .i64 pd] 24)).alloc (.cells #[.slice none 0 0, .int .i64 0, .bool false, .int .i64 0, .bool false, .int .i64 0] 24)).cell? ⟨w.heap.size + 1, 3, none⟩ = some (.int .i64 0) := cell_of_row _ _ 3 _ _ _ rr
    have mr1_4 : ((w.alloc (.cells #[.slice A d.length c, .int .i64 ps, .bool pp, .int .i64 tk, .bool tp, .int .i64 pd] 24)).alloc (.cells #[.slice none 0 0, .int .i64 0, .bool false, .int .i64 0, .bool false, .int .i64 0] 24)).cell? ⟨w.heap.size + 1, 4, none⟩ = some (.bool false) := cell_of_row _ _ 4 _ _ _ rr
    have mr1_5 : ((w.alloc (.cells #[.slice A d.length c, .int .i64 ps, .bool pp, .int .i64 tk, .bool tp, .int .i64 pd] 24)).alloc (.cells #[.slice none 0 0, .int .i64 0, .bool false, .int .i64 0, .bool false, .int .i64 0] 24)).cell? ⟨w.heap.size + 1, 5, none⟩ = some (.int .i64 0) := cell_of_row _ _ 5 _ _ _ rr
    go_enter Try.func28, Try.ntmps28
    go_wp2_with fail
    clear ma1_0 ma1_1 ma1_2 ma1_3 ma1_4 ma1_5
    generalize (w.alloc (.cells #[.slice A d.length c, .int .i64 ps, .bool pp, .int .i64 tk, .bool tp, .int .i64 pd] 24)) = u1 at *
    generalize (u1.alloc (.cells #[.slice none 0 0, .int .i64 0, .bool false, .int .i64 0, .bool false, .int .i64 0] 24)) = u2 at *
    have q := specAnswersValid_any A d.length c _ d ps pp tk tp pd u2 h (by omega)
    rw [HV.out] at q
    refine q.mono ?_
    clear q
    rintro e w3 ⟨rfl, b3⟩
    have s3 := b3.size
    clear ma2_0 ma2_1 ma2_2 ma2_3 ma2_4 ma2_5
    clear mr1_0 mr1_1 mr1_2 mr1_3 mr1_4 mr1_5
    replace ra := rowKeep ra b3
    replace rr := rowKeep rr b3
    replace h := h.below b3 (by omega)
    replace hB := below_later hB b3 (by omega)
    have ma3_0 : w3.cell? ⟨w.heap.size, 0, none⟩ = some (.slice A d.length c) := cell_of_row _ _ 0 _ _ _ ra
    have ma3_1 : w3.cell? ⟨w.heap.size, 1, none⟩ = some (.int .i64 ps) := cell_of_row _ _ 1 _ _ _ ra
    have ma3_2 : w3.cell? ⟨w.heap.size, 2, none⟩ = some (.bool pp) := cell_of_row _ _ 2 _ _ _ ra
    have ma3_3 : w3.cell? ⟨w.heap.size, 3, none⟩ = some (.int .i64 tk) := cell_of_row _ _ 3 _ _ _ ra
    have ma3_4 : w3.cell? ⟨w.heap.size, 4, none⟩ = some (.bool tp) := cell_of_row _ _ 4 _ _ _ ra
    have ma3_5 : w3.cell? ⟨w.heap.size, 5, none⟩ = some (.int .i64 pd) := cell_of_row _ _ 5 _ _ _ ra
    have mr2_0 : w3.cell? ⟨w.heap.size + 1, 0, none⟩ = some (.slice none 0 0) := cell_of_row _ _ 0 _ _ _ rr
    have mr2_1 : w3.cell? ⟨w.heap.size + 1, 1, none⟩ = some (.int .i64 0) := cell_of_row _ _ 1 _ _ _ rr
    have mr2_2 : w3.cell? ⟨w.heap.size + 1, 2, none⟩ = some (.bool false) := cell_of_row _ _ 2 _ _ _ rr
    have mr2_3 : w3.cell? ⟨w.heap.size + 1, 3, none⟩ = some (.int .i64 0) := cell_of_row _ _ 3 _ _ _ rr
    have mr2_4 : w3.cell? ⟨w.heap.size + 1, 4, none⟩ = some (.bool false) := cell_of_row _ _ 4 _ _ _ rr
    have mr2_5 : w3.cell? ⟨w.heap.size + 1, 5, none⟩ = some (.int .i64 0) := cell_of_row _ _ 5 _ _ _ rr
    clear b3
    have z4_0 := frzRow rr 0
    have z4_1 := frzRow rr 1
    have z4_2 := frzRow rr 2
    have z4_3 := frzRow rr 3
    have z4_4 := frzRow rr 4
    have z4_5 := frzRow rr 5
    replace ra := rowSet (rowSet (rowSet (rowSet (rowSet (rowSet (ra) ⟨w.heap.size + 1, 0, none⟩ (.slice none 0 0) (by show _ ≠ w.heap.size + 1; omega)) ⟨w.heap.size + 1, 1, none⟩ (.int .i64 0) (by show _ ≠ w.heap.size + 1; omega)) ⟨w.heap.size + 1, 2, none⟩ (.bool false) (by show _ ≠ w.heap.size + 1; omega)) ⟨w.heap.size + 1, 3, none⟩ (.int .i64 0) (by show _ ≠ w.heap.size + 1; omega)) ⟨w.heap.size + 1, 4, none⟩ (.bool false) (by show _ ≠ w.heap.size + 1; omega)) ⟨w.heap.size + 1, 5, none⟩ (.int .i64 0) (by show _ ≠ w.heap.size + 1; omega)
    replace rr := put5 (put4 (put3 (put2 (put1 (put0 (rr) (.slice none 0 0)) (.int .i64 0)) (.bool false)) (.int .i64 0)) (.bool false)) (.int .i64 0)
    replace h := ((((((h).setOther ⟨w.heap.size + 1, 0, none⟩ (.slice none 0 0) (by show _ ≤ w.heap.size + 1; omega)).setOther ⟨w.heap.size + 1, 1, none⟩ (.int .i64 0) (by show _ ≤ w.heap.size + 1; omega)).setOther ⟨w.heap.size + 1, 2, none⟩ (.bool false) (by show _ ≤ w.heap.size + 1; omega)).setOther ⟨w.heap.size + 1, 3, none⟩ (.int .i64 0) (by show _ ≤ w.heap.size + 1; omega)).setOther ⟨w.heap.size + 1, 4, none⟩ (.bool false) (by show _ ≤ w.heap.size + 1; omega)).setOther ⟨w.heap.size + 1, 5, none⟩ (.int .i64 0) (by show _ ≤ w.heap.size + 1; omega)
    replace hB := ((((((hB).setCell (p := ⟨w.heap.size + 1, 0, none⟩) (by show _ ≤ w.heap.size + 1; omega) (.slice none 0 0)).setCell (p := ⟨w.heap.size + 1, 1, none⟩) (by show _ ≤ w.heap.size + 1; omega) (.int .i64 0)).setCell (p := ⟨w.heap.size + 1, 2, none⟩) (by show _ ≤ w.heap.size + 1; omega) (.bool false)).setCell (p := ⟨w.heap.size + 1, 3, none⟩) (by show _ ≤ w.heap.size + 1; omega) (.int .i64 0)).setCell (p := ⟨w.heap.size + 1, 4, none⟩) (by show _ ≤ w.heap.size + 1; omega) (.bool false)).setCell (p := ⟨w.heap.size + 1, 5, none⟩) (by show _ ≤ w.heap.size + 1; omega) (.int .i64 0)
    have s4 : w3.heap.size ≤ ((((((w3.setCell ⟨w.heap.size + 1, 0, none⟩ (.slice none 0 0)).setCell ⟨w.heap.size + 1, 1, none⟩ (.int .i64 0)).setCell ⟨w.heap.size + 1, 2, none⟩ (.bool false)).setCell ⟨w.heap.size + 1, 3, none⟩ (.int .i64 0)).setCell ⟨w.heap.size + 1, 4, none⟩ (.bool false)).setCell ⟨w.heap.size + 1, 5, none⟩ (.int .i64 0)).heap.size := by simp only [World.size_setCell]; exact Nat.le_refl _
    have ma4_0 : ((((((w3.setCell ⟨w.heap.size + 1, 0, none⟩ (.slice none 0 0)).setCell ⟨w.heap.size + 1, 1, none⟩ (.int .i64 0)).setCell ⟨w.heap.size + 1, 2, none⟩ (.bool false)).setCell ⟨w.heap.size + 1, 3, none⟩ (.int .i64 0)).setCell ⟨w.heap.size + 1, 4, none⟩ (.bool false)).setCell ⟨w.heap.size + 1, 5, none⟩ (.int .i64 0)).cell? ⟨w.heap.size, 0, none⟩ = some (.slice A d.length c) := cell_of_row _ _ 0 _ _ _ ra
    have ma4_1 : ((((((w3.setCell ⟨w.heap.size + 1, 0, none⟩ (.slice none 0 0)).setCell ⟨w.heap.size + 1, 1, none⟩ (.int .i64 0)).setCell ⟨w.heap.size + 1, 2, none⟩ (.bool false)).setCell ⟨w.heap.size + 1, 3, none⟩ (.int .i64 0)).setCell ⟨w.heap.size + 1, 4, none⟩ (.bool false)).setCell ⟨w.heap.size + 1, 5, none⟩ (.int .i64 0)).cell? ⟨w.heap.size, 1, none⟩ = some (.int .i64 ps) := cell_of_row _ _ 1 _ _ _ ra
    have ma4_2 : ((((((w3.setCell ⟨w.heap.size + 1, 0, none⟩ (.slice none 0 0)).setCell ⟨w.heap.size + 1, 1, none⟩ (.int .i64 0)).setCell ⟨w.heap.size + 1, 2, none⟩ (.bool false)).setCell ⟨w.heap.size + 1, 3, none⟩ (.int .i64 0)).setCell ⟨w.heap.size + 1, 4, none⟩ (.bool false)).setCell ⟨w.heap.size + 1, 5, none⟩ (.int .i64 0)).cell? ⟨w.heap.size, 2, none⟩ = some (.bool pp) := cell_of_row _ _ 2 _ _ _ ra
    have ma4_3 : ((((((w3.setCell ⟨w.heap.size + 1, 0, none⟩ (.slice none 0 0)).setCell ⟨w.heap.size + 1, 1, none⟩ (.int .i64 0)).setCell ⟨w.heap.size + 1, 2, none⟩ (.bool false)).setCell ⟨w.heap.size + 1, 3, none⟩ (.int .i64 0)).setCell ⟨w.heap.size + 1, 4, none⟩ (.bool false)).setCell ⟨w.heap.size + 1, 5, none⟩ (.int .i64 0)).cell? ⟨w.heap.size, 3, none⟩ = some (.int .i64 tk) := cell_of_row _ _ 3 _ _ _ ra
    have ma4_4 : ((((((w3.setCell ⟨w.heap.size + 1, 0, none⟩ (.slice none 0 0)).setCell ⟨w.heap.size + 1, 1, none⟩ (.int .i64 0)).setCell ⟨w.heap.size + 1, 2, none⟩ (.bool false)).setCell ⟨w.heap.size + 1, 3, none⟩ (.int .i64 0)).setCell ⟨w.heap.size + 1, 4, none⟩ (.bool false)).setCell ⟨w.heap.size + 1, 5, none⟩ (.int .i64 0)).cell? ⟨w.heap.size, 4, none⟩ = some (.bool tp) := cell_of_row _ _ 4 _ _ _ ra
    have ma4_5 : ((((((w3.setCell ⟨w.heap.size + 1, 0, none⟩ (.slice none 0 0)).setCell ⟨w.heap.size + 1, 1, none⟩ (.int .i64 0)).setCell ⟨w.heap.size + 1, 2, none⟩ (.bool false)).setCell ⟨w.heap.size + 1, 3, none⟩ (.int .i64 0)).setCell ⟨w.heap.size + 1, 4, none⟩ (.bool false)).setCell ⟨w.heap.size + 1, 5, none⟩ (.int .i64 0)).cell? ⟨w.heap.size, 5, none⟩ = some (.int .i64 pd) := cell_of_row _ _ 5 _ _ _ ra
    have mr3_0 : ((((((w3.setCell ⟨w.heap.size + 1, 0, none⟩ (.slice none 0 0)).setCell ⟨w.heap.size + 1, 1, none⟩ (.int .i64 0)).setCell ⟨w.heap.size + 1, 2, none⟩ (.bool false)).setCell ⟨w.heap.size + 1, 3, none⟩ (.int .i64 0)).setCell ⟨w.heap.size + 1, 4, none⟩ (.bool false)).setCell ⟨w.heap.size + 1, 5, none⟩ (.int .i64 0)).cell? ⟨w.heap.size + 1, 0, none⟩ = some (.slice none 0 0) := cell_of_row _ _ 0 _ _ _ rr
    have mr3_1 : ((((((w3.setCell ⟨w.heap.size + 1, 0, none⟩ (.slice none 0 0)).setCell ⟨w.heap.size + 1, 1, none⟩ (.int .i64 0)).setCell ⟨w.heap.size + 1, 2, none⟩ (.bool false)).setCell ⟨w.heap.size + 1, 3, none⟩ (.int .i64 0)).setCell ⟨w.heap.size + 1, 4, none⟩ (.bool false)).setCell ⟨w.heap.size + 1, 5, none⟩ (.int .i64 0)).cell? ⟨w.heap.size + 1, 1, none⟩ = some (.int .i64 0) := cell_of_row _ _ 1 _ _ _ rr
    have mr3_2 : ((((((w3.setCell ⟨w.heap.size + 1, 0, none⟩ (.slice none 0 0)).setCell ⟨w.heap.size + 1, 1, none⟩ (.int .i64 0)).setCell ⟨w.heap.size + 1, 2, none⟩ (.bool false)).setCell ⟨w.heap.size + 1, 3, none⟩ (.int .i64 0)).setCell ⟨w.heap.size + 1, 4, none⟩ (.bool false)).setCell ⟨w.heap.size + 1, 5, none⟩ (.int .i64 0)).cell? ⟨w.heap.size + 1, 2, none⟩ = some (.bool false) := cell_of_row _ _ 2 _ _ _ rr
    have mr3_3 : ((((((w3.setCell ⟨w.heap.size + 1, 0, none⟩ (.slice none 0 0)).setCell ⟨w.heap.size + 1, 1, none⟩ (.int .i64 0)).setCell ⟨w.heap.size + 1, 2, none⟩ (.bool false)).setCell ⟨w.heap.size + 1, 3, none⟩ (.int .i64 0)).setCell ⟨w.heap.size + 1, 4, none⟩ (.bool false)).setCell ⟨w.heap.size + 1, 5, none⟩ (.int .i64 0)).cell? ⟨w.heap.size + 1, 3, none⟩ = some (.int .i64 0) := cell_of_row _ _ 3 _ _ _ rr
    have mr3_4 : ((((((w3.setCell ⟨w.heap.size + 1, 0, none⟩ (.slice none 0 0)).setCell ⟨w.heap.size + 1, 1, none⟩ (.int .i64 0)).setCell ⟨w.heap.size + 1, 2, none⟩ (.bool false)).setCell ⟨w.heap.size + 1, 3, none⟩ (.int .i64 0)).setCell ⟨w.heap.size + 1, 4, none⟩ (.bool false)).setCell ⟨w.heap.size + 1, 5, none⟩ (.int .i64 0)).cell? ⟨w.heap.size + 1, 4, none⟩ = some (.bool false) := cell_of_row _ _ 4 _ _ _ rr
    have mr3_5 : ((((((w3.setCell ⟨w.heap.size + 1, 0, none⟩ (.slice none 0 0)).setCell ⟨w.heap.size + 1, 1, none⟩ (.int .i64 0)).setCell ⟨w.heap.size + 1, 2, none⟩ (.bool false)).setCell ⟨w.heap.size + 1, 3, none⟩ (.int .i64 0)).setCell ⟨w.heap.size + 1, 4, none⟩ (.bool false)).setCell ⟨w.heap.size + 1, 5, none⟩ (.int .i64 0)).cell? ⟨w.heap.size + 1, 5, none⟩ = some (.int .i64 0) := cell_of_row _ _ 5 _ _ _ rr
    go_wp2_with fail
    refine bodyPost_ret (v := .tuple #[.agg #[.slice none 0 0, .int .i64 0, .bool false, .int .i64 0, .bool false, .int .i64 0], .int .i64 0, .bool false]) (by simp only [results, Try.results28]; simp [go_sem, mr3_0, mr3_1, mr3_2, mr3_3, mr3_4, mr3_5]) rfl ?_
    have HE : (atake ⟨d, ps, pp, tk, tp, pd⟩).ents = [] := by rw [HP.out.1]; rfl
    have HF : takeV ⟨d, ps, pp, tk, tp, pd⟩ = fun y => .tuple #[ansR 0 false 0 false 0 y, .int .i64 0, .bool false] := by unfold takeV; rw [HP.out.1, HP.out.2.1, HP.out.2.2]; rfl
    rw [HE, HF]
    exact RetF.of (f := fun y => .tuple #[ansR 0 false 0 false 0 y, .int .i64 0, .bool false]) (Own.nil _ w.heap.size w.heap.size _ _) (Nat.le_refl _) (by omega) hB
  · have HV := Lib.hid hv
    have hh := ((aval_iff _).1 hv).1
    have q1 := hh.n1
    have q2 := hh.n16
    have q3 := hh.t0
    have q4 := hh.t1
    have q5 := hh.e0
    have q6 := hh.e1
    change 1 ≤ d.length at q1
    change d.length ≤ 16 at q2
    change 0 ≤ tk at q3
    change tk < (d.length : Int) at q4
    change 0 ≤ pd at q5
    change pd ≤ (d.length : Int) at q6
    clear hh
    obtain ⟨t, rfl⟩ := Int.eq_ofNat_of_zero_le q3
    have ht : t < d.length := by omega
    have i1 : (0 : Int) ≤ (t : Int) := by omega
    have i2 : (t : Int) < (d.length : Int) := by omega
    have hna := anewA_iff ⟨d, ps, pp, (t : Int), tp, pd⟩ hv
    have hna2 : anewA ⟨d, ps, pp, (t : Int), tp, pd⟩ = (d[t].2 == tp) := by unfold anewA aph; simp [ht]
    rw [hna2] at hna
    clear hna2
    change (d[t].2 == tp) = decide (0 < pd) at hna
    have hav : avl ⟨d, ps, pp, (t : Int), tp, pd⟩ t = d[t].1 := by unfold avl; simp [ht]
    obtain ⟨x, ph, hdt⟩ : ∃ x ph, d[t] = (x, ph) := ⟨_, _, rfl⟩
    rw [hdt] at hna hav
    simp only at hna hav
    have HDT := Lib.hid hdt
    clear hdt
    obtain ⟨b, o, hA, hbB, -⟩ := h.ans_at (by omega)
    subst hA
    by_cases hp : 0 < pd
    · have HP := Lib.hid (atake_cut ⟨d, ps, pp, (t : Int), tp, pd⟩ hv (by show 0 < pd; omega))
      have hph : ph = tp := by rw [decide_eq_true hp] at hna; exact beq_iff_eq.1 hna
      subst hph
      have HAV := Lib.hid hav
      obtain ⟨m, hm, hm0, hm1, hme⟩ : ∃ m : Int, ((t : Int) + 1) % (d.length : Int) = m ∧ 0 ≤ m ∧ m < (d.length : Int) ∧ ((t : Int) + 1).tmod (d.length : Int) = m := ⟨_, rfl, Int.emod_nonneg _ (by omega), Int.emod_lt_of_pos _ (by omega), Int.tmod_eq_emod_of_nonneg (by omega)⟩
      have e1 : IntKind.i64.wrap ((t : Int) + 1) = (t : Int) + 1 := IntWalk.i64_in _ (by omega)
      have e2 : IntKind.i64.wrap (pd - 1) = pd - 1 := IntWalk.i64_in _ (by omega)
      have hzn : ((d.length : Int) == 0) = false := beq_eq_false_iff_ne.2 (by omega)
      clear hv hna hav
      by_cases hz : m = 0
      · have hbz : (m == 0) = true := beq_iff_eq.2 hz
        have HE := Lib.hid (show (atake ⟨d, ps, pp, (t : Int), ph, pd⟩).ents = d by rw [HP.out.1]; rfl)
        have HF := Lib.hid (show takeV ⟨d, ps, pp, (t : Int), ph, pd⟩ = fun y => .tuple #[ansR ps pp m (!ph) (pd - 1) y, .int .i64 x, .bool true] by unfold takeV; rw [HP.out.1, HP.out.2.1, HP.out.2.2]; unfold acut ansW; simp only [Ans.n, hm, Int.toNat_natCast, HAV.out]; rw [decide_eq_true hz]; cases ph <;> rfl)
        clear hm hz
        have hn1 := below_new w (.cells #[.slice (some ⟨b, o, none⟩) d.length c, .int .i64 ps, .bool pp, .int .i64 (t : Int), .bool ph, .int .i64 pd] 24)
        replace h := h.below hn1 (by omega)
        replace hB := below_later hB hn1 (by omega)
        clear hn1
        have s1 : w.heap.size < (w.alloc (.cells #[.slice (some ⟨b, o, none⟩) d.length c, .int .i64 ps, .bool pp, .int .i64 (t : Int), .bool ph, .int .i64 pd] 24)).heap.size := Nat.lt_of_lt_of_eq (Nat.lt_succ_self _) (World.size_alloc _ _).symm
        have ra : (w.alloc (.cells #[.slice (some ⟨b, o, none⟩) d.length c, .int .i64 ps, .bool pp, .int .i64 (t : Int), .bool ph, .int .i64 pd] 24)).heap[w.heap.size]? = some (.cells #[.slice (some ⟨b, o, none⟩) d.length c, .int .i64 ps, .bool pp, .int .i64 (t : Int), .bool ph, .int .i64 pd] 24 (0, 0)) := by have q := heap_alloc_new w (.cells #[.slice (some ⟨b, o, none⟩) d.length c, .int .i64 ps, .bool pp, .int .i64 (t : Int), .bool ph, .int .i64 pd] 24); (try simp only [World.size_alloc, World.size_setCell] at q); exact q
        have ma1_0 : (w.alloc (.cells #[.slice (some ⟨b, o, none⟩) d.length c, .int .i64 ps, .bool pp, .int .i64 (t : Int), .bool ph, .int .i64 pd] 24)).cell? ⟨w.heap.size, 0, none⟩ = some (.slice (some ⟨b, o, none⟩) d.length c) := cell_of_row _ _ 0 _ _ _ ra
        have ma1_1 : (w.alloc (.cells #[.slice (some ⟨b, o, none⟩) d.length c, .int .i64 ps, .bool pp, .int .i64 (t : Int), .bool ph, .int .i64 pd] 24)).cell? ⟨w.heap.size, 1, none⟩ = some (.int .i64 ps) := cell_of_row _ _ 1 _ _ _ ra
        have ma1_2 : (w.alloc (.cells #[.slice (some ⟨b, o, none⟩) d.length c, .int .i64 ps, .bool pp, .int .i64 (t : Int), .bool ph, .int .i64 pd] 24)).cell? ⟨w.heap.size, 2, none⟩ = some (.bool pp) := cell_of_row _ _ 2 _ _ _ ra
        have ma1_3 : (w.alloc (.cells #[.slice (some ⟨b, o, none⟩) d.length c, .int .i64 ps, .bool pp, .int .i64 (t : Int), .bool ph, .int .i64 pd] 24)).cell? ⟨w.heap.size, 3, none⟩ = some (.int .i64 (t : Int)) := cell_of_row _ _ 3 _ _ _ ra
        have ma1_4 : (w.alloc (.cells #[.slice (some ⟨b, o, none⟩) d.length c, .int .i64 ps, .bool pp, .int .i64 (t : Int), .bool ph, .int .i64 pd] 24)).cell? ⟨w.heap.size, 4, none⟩ = some (.bool ph) := cell_of_row _ _ 4 _ _ _ ra
        have ma1_5 : (w.alloc (.cells #[.slice (some ⟨b, o, none⟩) d.length c, .int .i64 ps, .bool pp, .int .i64 (t : Int), .bool ph, .int .i64 pd] 24)).cell? ⟨w.heap.size, 5, none⟩ = some (.int .i64 pd) := cell_of_row _ _ 5 _ _ _ ra
        have hn2 := below_new (w.alloc (.cells #[.slice (some ⟨b, o, none⟩) d.length c, .int .i64 ps, .bool pp, .int .i64 (t : Int), .bool ph, .int .i64 pd] 24)) (.cells #[.slice none 0 0, .int .i64 0, .bool false, .int .i64 0, .bool false, .int .i64 0] 24)
        replace ra := rowKeep ra hn2
        replace h := h.below hn2 (by omega)
        replace hB := below_later hB hn2 (by omega)
        have ma2_0 : ((w.alloc (.cells #[.slice (some ⟨b, o, none⟩) d.length c, .int .i64 ps, .bool pp, .int .i64 (t : Int), .bool ph, .int .i64 pd] 24)).alloc (.cells #[.slice none 0 0, .int .i64 0, .bool false, .int .i64 0, .bool false, .int .i64 0] 24)).cell? ⟨w.heap.size, 0, none⟩ = some (.slice (some ⟨b, o, none⟩) d.length c) := cell_of_row _ _ 0 _ _ _ ra
        have ma2_1 : ((w.alloc (.cells #[.slice (some ⟨b, o, none⟩) d.length c, .int .i64 ps, .bool pp, .int .i64 (t : Int), .bool ph, .int .i64 pd] 24)).alloc (.cells #[.slice none 0 0, .int .i64 0, .bool false, .int .i64 0, .bool false, .int .i64 0] 24)).cell? ⟨w.heap.size, 1, none⟩ = some (.int .i64 ps) := cell_of_row _ _ 1 _ _ _ ra
        have ma2_2 : ((w.alloc (.cells #[.slice (some ⟨b, o, none⟩) d.length c, .int .i64 ps, .bool pp, .int .i64 (t : Int), .bool ph, .int .i64 pd] 24)).alloc (.cells #[.slice none 0 0, .int .i64 0, .bool false, .int .i64 0, .bool false, .int .i64 0] 24)).cell? ⟨w.heap.size, 2, none⟩ = some (.bool pp) := cell_of_row _ _ 2 _ _ _ ra
        have ma2_3 : ((w.alloc (.cells #[.slice (some ⟨b, o, none⟩) d.length c, .int .i64 ps, .bool pp, .int .i64 (t : Int), .bool ph, .int .i64 pd] 24)).alloc (.cells #[.slice none 0 0, .int .i64 0, .bool false, .int .i64 0, .bool false, .int .i64 0] 24)).cell? ⟨w.heap.size, 3, none⟩ = some (.int .i64 (t : Int)) := cell_of_row _ _ 3 _ _ _ ra
        have ma2_4 : ((w.alloc (.cells #[.slice (some ⟨b, o, none⟩) d.length c, .int .i64 ps, .bool pp, .int .i64 (t : Int), .bool ph, .int .i64 pd] 24)).alloc (.cells #[.slice none 0 0, .int .i64 0, .bool false, .int .i64 0, .bool false, .int .i64 0] 24)).cell? ⟨w.heap.size, 4, none⟩ = some (.bool ph) := cell_of_row _ _ 4 _ _ _ ra
        have ma2_5 : ((w.alloc (.cells #[.slice (some ⟨b, o, none⟩) d.length c, .int .i64 ps, .bool pp, .int .i64 (t : Int), .bool ph, .int .i64 pd] 24)).alloc (.cells #[.slice none 0 0, .int .i64 0, .bool false, .int .i64 0, .bool false, .int .i64 0] 24)).cell? ⟨w.heap.size, 5, none⟩ = some (.int .i64 pd) := cell_of_row _ _ 5 _ _ _ ra
        clear hn2
        have s2 : (w.alloc (.cells #[.slice (some ⟨b, o, none⟩) d.length c, .int .i64 ps, .bool pp, .int .i64 (t : Int), .bool ph, .int .i64 pd] 24)).heap.size < ((w.alloc (.cells #[.slice (some ⟨b, o, none⟩) d.length c, .int .i64 ps, .bool pp, .int .i64 (t : Int), .bool ph, .int .i64 pd] 24)).alloc (.cells #[.slice none 0 0, .int .i64 0, .bool false, .int .i64 0, .bool false, .int .i64 0] 24)).heap.size := Nat.lt_of_lt_of_eq (Nat.lt_succ_self _) (World.size_alloc _ _).symm
        have rr : ((w.alloc (.cells #[.slice (some ⟨b, o, none⟩) d.length c, .int .i64 ps, .bool pp, .int .i64 (t : Int), .bool ph, .int .i64 pd] 24)).alloc (.cells #[.slice none 0 0, .int .i64 0, .bool false, .int .i64 0, .bool false, .int .i64 0] 24)).heap[w.heap.size + 1]? = some (.cells #[.slice none 0 0, .int .i64 0, .bool false, .int .i64 0, .bool false, .int .i64 0] 24 (0, 0)) := by have q := heap_alloc_new (w.alloc (.cells #[.slice (some ⟨b, o, none⟩) d.length c, .int .i64 ps, .bool pp, .int .i64 (t : Int), .bool ph, .int .i64 pd] 24)) (.cells #[.slice none 0 0, .int .i64 0, .bool false, .int .i64 0, .bool false, .int .i64 0] 24); (try simp only [World.size_alloc, World.size_setCell] at q); exact q
        have mr1_0 : ((w.alloc (.cells #[.slice (some ⟨b, o, none⟩) d.length c, .int .i64 ps, .bool pp, .int .i64 (t : Int), .bool ph, .int .i64 pd] 24)).alloc (.cells #[.slice none 0 0, .int .i64 0, .bool false, .int .i64 0, .bool false, .int .i64 0] 24)).cell? ⟨w.heap.size + 1, 0, none⟩ = some (.slice none 0 0) := cell_of_row _ _ 0 _ _ _ rr
        have mr1_1 : ((w.alloc (.cells #[.slice (some ⟨b, o, none⟩) d.length c, .int .i64 ps, .bool pp, .int .i64 (t : Int), .bool ph, .int .i64 pd] 24)).alloc (.cells #[.slice none 0 0, .int .i64 0, .bool false, .int .i64 0, .bool false, .int .i64 0] 24)).cell? ⟨w.heap.size + 1, 1, none⟩ = some (.int .i64 0) := cell_of_row _ _ 1 _ _ _ rr
        have mr1_2 : ((w.alloc (.cells #[.slice (some ⟨b, o, none⟩) d.length c, .int .i64 ps, .bool pp, .int .i64 (t : Int), .bool ph, .int .i64 pd] 24)).alloc (.cells #[.slice none 0 0, .int .i64 0, .bool false, .int .i64 0, .bool false, .int .i64 0] 24)).cell? ⟨w.heap.size + 1, 2, none⟩ = some (.bool false) := cell_of_row _ _ 2 _ _ _ rr
        have mr1_3 : ((w.alloc (.cells #[.slice (some ⟨b, o, none⟩) d.length c, .int .i64 ps, .bool pp, .int .i64 (t : Int), .bool ph, .int .i64 pd] 24)).alloc (.cells #[.slice none 0 0, .int .i64 0, .bool false, .int .i64 0, .bool false, .int .i64 0] 24)).cell? ⟨w.heap.size + 1, 3, none⟩ = some (.int .i64 0) := cell_of_row _ _ 3 _ _ _ rr
        have mr1_4 : ((w.alloc (.cells #[.slice (some ⟨b, o, none⟩) d.length c, .int .i64 ps, .bool pp, .int .i64 (t : Int), .bool ph, .int .i64 pd] 24)).alloc (.cells #[.slice none 0 0, .int .i64 0, .bool false, .int .i64 0, .bool false, .int .i64 0] 24)).cell? ⟨w.heap.size + 1, 4, none⟩ = some (.bool false) := cell_of_row _ _ 4 _ _ _ rr
        have mr1_5 : ((w.alloc (.cells #[.slice (some ⟨b, o, none⟩) d.length c, .int .i64 ps, .bool pp, .int .i64 (t : Int), .bool ph, .int .i64 pd] 24)).alloc (.cells #[.slice none 0 0, .int .i64 0, .bool false, .int .i64 0, .bool false, .int .i64 0] 24)).cell? ⟨w.heap.size + 1, 5, none⟩ = some (.int .i64 0) := cell_of_row _ _ 5 _ _ _ rr
        go_enter Try.func28, Try.ntmps28
        go_wp2_with fail
        clear ma1_0 ma1_1 ma1_2 ma1_3 ma1_4 ma1_5
        generalize (w.alloc (.cells #[.slice (some ⟨b, o, none⟩) d.length c, .int .i64 ps, .bool pp, .int .i64 (t : Int), .bool ph, .int .i64 pd] 24)) = u1 at *
        generalize (u1.alloc (.cells #[.slice none 0 0, .int .i64 0, .bool false, .int .i64 0, .bool false, .int .i64 0] 24)) = u2 at *
        have q := specAnswersValid_any (some ⟨b, o, none⟩) d.length c _ d ps pp (t : Int) ph pd u2 h (by omega)
        rw [HV.out] at q
        refine q.mono ?_
        clear q
        rintro e w3 ⟨rfl, b3⟩
        have s3 := b3.size
        clear ma2_0 ma2_1 ma2_2 ma2_3 ma2_4 ma2_5
        clear mr1_0 mr1_1 mr1_2 mr1_3 mr1_4 mr1_5
        replace ra := rowKeep ra b3
        replace rr := rowKeep rr b3
        replace h := h.below b3 (by omega)
        replace hB := below_later hB b3 (by omega)
        have ma3_0 : w3.cell? ⟨w.heap.size, 0, none⟩ = some (.slice (some ⟨b, o, none⟩) d.length c) := cell_of_row _ _ 0 _ _ _ ra
        have ma3_1 : w3.cell? ⟨w.heap.size, 1, none⟩ = some (.int .i64 ps) := cell_of_row _ _ 1 _ _ _ ra
        have ma3_2 : w3.cell? ⟨w.heap.size, 2, none⟩ = some (.bool pp) := cell_of_row _ _ 2 _ _ _ ra
        have ma3_3 : w3.cell? ⟨w.heap.size, 3, none⟩ = some (.int .i64 (t : Int)) := cell_of_row _ _ 3 _ _ _ ra
        have ma3_4 : w3.cell? ⟨w.heap.size, 4, none⟩ = some (.bool ph) := cell_of_row _ _ 4 _ _ _ ra
        have ma3_5 : w3.cell? ⟨w.heap.size, 5, none⟩ = some (.int .i64 pd) := cell_of_row _ _ 5 _ _ _ ra
        have mr2_0 : w3.cell? ⟨w.heap.size + 1, 0, none⟩ = some (.slice none 0 0) := cell_of_row _ _ 0 _ _ _ rr
        have mr2_1 : w3.cell? ⟨w.heap.size + 1, 1, none⟩ = some (.int .i64 0) := cell_of_row _ _ 1 _ _ _ rr
        have mr2_2 : w3.cell? ⟨w.heap.size + 1, 2, none⟩ = some (.bool false) := cell_of_row _ _ 2 _ _ _ rr
        have mr2_3 : w3.cell? ⟨w.heap.size + 1, 3, none⟩ = some (.int .i64 0) := cell_of_row _ _ 3 _ _ _ rr
        have mr2_4 : w3.cell? ⟨w.heap.size + 1, 4, none⟩ = some (.bool false) := cell_of_row _ _ 4 _ _ _ rr
        have mr2_5 : w3.cell? ⟨w.heap.size + 1, 5, none⟩ = some (.int .i64 0) := cell_of_row _ _ 5 _ _ _ rr
        clear b3
        go_wp2_with fail
        have q := l4Copy_any (some ⟨b, o, none⟩) d.length c _ d ps pp (t : Int) ph pd w3 h (by omega) (by omega)
        refine q.mono ?_
        clear q
        rintro e w4 ⟨A2, c2, rfl, o2, b4⟩
        have s4 := b4.size
        clear ma3_0 ma3_1 ma3_2 ma3_3 ma3_4 ma3_5
        clear mr2_0 mr2_1 mr2_2 mr2_3 mr2_4 mr2_5
        replace ra := rowKeep ra b4
        replace rr := rowKeep rr b4
        replace h := h.below b4 (by omega)
        replace hB := below_later hB b4 (by omega)
        have ma4_0 : w4.cell? ⟨w.heap.size, 0, none⟩ = some (.slice (some ⟨b, o, none⟩) d.length c) := cell_of_row _ _ 0 _ _ _ ra
        have ma4_1 : w4.cell? ⟨w.heap.size, 1, none⟩ = some (.int .i64 ps) := cell_of_row _ _ 1 _ _ _ ra
        have ma4_2 : w4.cell? ⟨w.heap.size, 2, none⟩ = some (.bool pp) := cell_of_row _ _ 2 _ _ _ ra
        have ma4_3 : w4.cell? ⟨w.heap.size, 3, none⟩ = some (.int .i64 (t : Int)) := cell_of_row _ _ 3 _ _ _ ra
        have ma4_4 : w4.cell? ⟨w.heap.size, 4, none⟩ = some (.bool ph) := cell_of_row _ _ 4 _ _ _ ra
        have ma4_5 : w4.cell? ⟨w.heap.size, 5, none⟩ = some (.int .i64 pd) := cell_of_row _ _ 5 _ _ _ ra
        have mr3_0 : w4.cell? ⟨w.heap.size + 1, 0, none⟩ = some (.slice none 0 0) := cell_of_row _ _ 0 _ _ _ rr
        have mr3_1 : w4.cell? ⟨w.heap.size + 1, 1, none⟩ = some (.int .i64 0) := cell_of_row _ _ 1 _ _ _ rr
        have mr3_2 : w4.cell? ⟨w.heap.size + 1, 2, none⟩ = some (.bool false) := cell_of_row _ _ 2 _ _ _ rr
        have mr3_3 : w4.cell? ⟨w.heap.size + 1, 3, none⟩ = some (.int .i64 0) := cell_of_row _ _ 3 _ _ _ rr
        have mr3_4 : w4.cell? ⟨w.heap.size + 1, 4, none⟩ = some (.bool false) := cell_of_row _ _ 4 _ _ _ rr
        have mr3_5 : w4.cell? ⟨w.heap.size + 1, 5, none⟩ = some (.int .i64 0) := cell_of_row _ _ 5 _ _ _ rr
        clear b4
        simp only [ansR]
        have hn5 := below_new w4 (.cells #[.slice A2 d.length c2, .int .i64 ps, .bool pp, .int .i64 (t : Int), .bool ph, .int .i64 pd] 24)
        replace ra := rowKeep ra hn5
        replace rr := rowKeep rr hn5
        replace o2 := o2.below hn5
        replace h := h.below hn5 (by omega)
        replace hB := below_later hB hn5 (by omega)
        have ma5_0 : (w4.alloc (.cells #[.slice A2 d.length c2, .int .i64 ps, .bool pp, .int .i64 (t : Int), .bool ph, .int .i64 pd] 24)).cell? ⟨w.heap.size, 0, none⟩ = some (.slice (some ⟨b, o, none⟩) d.length c) := cell_of_row _ _ 0 _ _ _ ra
        have ma5_1 : (w4.alloc (.cells #[.slice A2 d.length c2, .int .i64 ps, .bool pp, .int .i64 (t : Int), .bool ph, .int .i64 pd] 24)).cell? ⟨w.heap.size, 1, none⟩ = some (.int .i64 ps) := cell_of_row _ _ 1 _ _ _ ra
        have ma5_2 : (w4.alloc (.cells #[.slice A2 d.length c2, .int .i64 ps, .bool pp, .int .i64 (t : Int), .bool ph, .int .i64 pd] 24)).cell? ⟨w.heap.size, 2, none⟩ = some (.bool pp) := cell_of_row _ _ 2 _ _ _ ra
        have ma5_3 : (w4.alloc (.cells #[.slice A2 d.length c2, .int .i64 ps, .bool pp, .int .i64 (t : Int), .bool ph, .int .i64 pd] 24)).cell? ⟨w.heap.size, 3, none⟩ = some (.int .i64 (t : Int)) := cell_of_row _ _ 3 _ _ _ ra
        have ma5_4 : (w4.alloc (.cells #[.slice A2 d.length c2, .int .i64 ps, .bool pp, .int .i64 (t : Int), .bool ph, .int .i64 pd] 24)).cell? ⟨w.heap.size, 4, none⟩ = some (.bool ph) := cell_of_row _ _ 4 _ _ _ ra
        have ma5_5 : (w4.alloc (.cells #[.slice A2 d.length c2, .int .i64 ps, .bool pp, .int .i64 (t : Int), .bool ph, .int .i64 pd] 24)).cell? ⟨w.heap.size, 5, none⟩ = some (.int .i64 pd) := cell_of_row _ _ 5 _ _ _ ra
        have mr4_0 : (w4.alloc (.cells #[.slice A2 d.length c2, .int .i64 ps, .bool pp, .int .i64 (t : Int), .bool ph, .int .i64 pd] 24)).cell? ⟨w.heap.size + 1, 0, none⟩ = some (.slice none 0 0) := cell_of_row _ _ 0 _ _ _ rr
        have mr4_1 : (w4.alloc (.cells #[.slice A2 d.length c2, .int .i64 ps, .bool pp, .int .i64 (t : Int), .bool ph, .int .i64 pd] 24)).cell? ⟨w.heap.size + 1, 1, none⟩ = some (.int .i64 0) := cell_of_row _ _ 1 _ _ _ rr
        have mr4_2 : (w4.alloc (.cells #[.slice A2 d.length c2, .int .i64 ps, .bool pp, .int .i64 (t : Int), .bool ph, .int .i64 pd] 24)).cell? ⟨w.heap.size + 1, 2, none⟩ = some (.bool false) := cell_of_row _ _ 2 _ _ _ rr
        have mr4_3 : (w4.alloc (.cells #[.slice A2 d.length c2, .int .i64 ps, .bool pp, .int .i64 (t : Int), .bool ph, .int .i64 pd] 24)).cell? ⟨w.heap.size + 1, 3, none⟩ = some (.int .i64 0) := cell_of_row _ _ 3 _ _ _ rr
        have mr4_4 : (w4.alloc (.cells #[.slice A2 d.length c2, .int .i64 ps, .bool pp, .int .i64 (t : Int), .bool ph, .int .i64 pd] 24)).cell? ⟨w.heap.size + 1, 4, none⟩ = some (.bool false) := cell_of_row _ _ 4 _ _ _ rr
        have mr4_5 : (w4.alloc (.cells #[.slice A2 d.length c2, .int .i64 ps, .bool pp, .int .i64 (t : Int), .bool ph, .int .i64 pd] 24)).cell? ⟨w.heap.size + 1, 5, none⟩ = some (.int .i64 0) := cell_of_row _ _ 5 _ _ _ rr
        clear hn5
        have s5 : w4.heap.size < (w4.alloc (.cells #[.slice A2 d.length c2, .int .i64 ps, .bool pp, .int .i64 (t : Int), .bool ph, .int .i64 pd] 24)).heap.size := Nat.lt_of_lt_of_eq (Nat.lt_succ_self _) (World.size_alloc _ _).symm
        have rx : (w4.alloc (.cells #[.slice A2 d.length c2, .int .i64 ps, .bool pp, .int .i64 (t : Int), .bool ph, .int .i64 pd] 24)).heap[w4.heap.size]? = some (.cells #[.slice A2 d.length c2, .int .i64 ps, .bool pp, .int .i64 (t : Int), .bool ph, .int .i64 pd] 24 (0, 0)) := by have q := heap_alloc_new w4 (.cells #[.slice A2 d.length c2, .int .i64 ps, .bool pp, .int .i64 (t : Int), .bool ph, .int .i64 pd] 24); (try simp only [World.size_alloc, World.size_setCell] at q); exact q
        have mx1_0 : (w4.alloc (.cells #[.slice A2 d.length c2, .int .i64 ps, .bool pp, .int .i64 (t : Int), .bool ph, .int .i64 pd] 24)).cell? ⟨w4.heap.size, 0, none⟩ = some (.slice A2 d.length c2) := cell_of_row _ _ 0 _ _ _ rx
        have mx1_1 : (w4.alloc (.cells #[.slice A2 d.length c2, .int .i64 ps, .bool pp, .int .i64 (t : Int), .bool ph, .int .i64 pd] 24)).cell? ⟨w4.heap.size, 1, none⟩ = some (.int .i64 ps) := cell_of_row _ _ 1 _ _ _ rx
        have mx1_2 : (w4.alloc (.cells #[.slice A2 d.length c2, .int .i64 ps, .bool pp, .int .i64 (t : Int), .bool ph, .int .i64 pd] 24)).cell? ⟨w4.heap.size, 2, none⟩ = some (.bool pp) := cell_of_row _ _ 2 _ _ _ rx
        have mx1_3 : (w4.alloc (.cells #[.slice A2 d.length c2, .int .i64 ps, .bool pp, .int .i64 (t : Int), .bool ph, .int .i64 pd] 24)).cell? ⟨w4.heap.size, 3, none⟩ = some (.int .i64 (t : Int)) := cell_of_row _ _ 3 _ _ _ rx
        have mx1_4 : (w4.alloc (.cells #[.slice A2 d.length c2, .int .i64 ps, .bool pp, .int .i64 (t : Int), .bool ph, .int .i64 pd] 24)).cell? ⟨w4.heap.size, 4, none⟩ = some (.bool ph) := cell_of_row _ _ 4 _ _ _ rx
        have mx1_5 : (w4.alloc (.cells #[.slice A2 d.length c2, .int .i64 ps, .bool pp, .int .i64 (t : Int), .bool ph, .int .i64 pd] 24)).cell? ⟨w4.heap.size, 5, none⟩ = some (.int .i64 pd) := cell_of_row _ _ 5 _ _ _ rx
        go_upto_region 4 with fail
        clear ma4_0 ma4_1 ma4_2 ma4_3 ma4_4 ma4_5 mr3_0 mr3_1 mr3_2 mr3_3 mr3_4 mr3_5
        generalize (w4.alloc (.cells #[.slice A2 d.length c2, .int .i64 ps, .bool pp, .int .i64 (t : Int), .bool ph, .int .i64 pd] 24)) = u5 at *
        have hn6 : Below u5.heap.size u5 u5.drew := below_drewN (Below.refl _ _) 1
        have s6 : u5.heap.size ≤ u5.drew.heap.size := Nat.le_refl _
        clear ma5_0 ma5_1 ma5_2 ma5_3 ma5_4 ma5_5
        clear mr4_0 mr4_1 mr4_2 mr4_3 mr4_4 mr4_5
        clear mx1_0 mx1_1 mx1_2 mx1_3 mx1_4 mx1_5
        replace ra := rowKeep ra hn6
        replace rr := rowKeep rr hn6
        replace rx := rowKeep rx hn6
        replace o2 := o2.below hn6
        replace h := h.below hn6 (by omega)
        replace hB := below_later hB hn6 (by omega)
        have ma6_0 : u5.drew.cell? ⟨w.heap.size, 0, none⟩ = some (.slice (some ⟨b, o, none⟩) d.length c) := cell_of_row _ _ 0 _ _ _ ra
        have ma6_1 : u5.drew.cell? ⟨w.heap.size, 1, none⟩ = some (.int .i64 ps) := cell_of_row _ _ 1 _ _ _ ra
        have ma6_2 : u5.drew.cell? ⟨w.heap.size, 2, none⟩ = some (.bool pp) := cell_of_row _ _ 2 _ _ _ ra
        have ma6_3 : u5.drew.cell? ⟨w.heap.size, 3, none⟩ = some (.int .i64 (t : Int)) := cell_of_row _ _ 3 _ _ _ ra
        have ma6_4 : u5.drew.cell? ⟨w.heap.size, 4, none⟩ = some (.bool ph) := cell_of_row _ _ 4 _ _ _ ra
        have ma6_5 : u5.drew.cell? ⟨w.heap.size, 5, none⟩ = some (.int .i64 pd) := cell_of_row _ _ 5 _ _ _ ra
        have mr5_0 : u5.drew.cell? ⟨w.heap.size + 1, 0, none⟩ = some (.slice none 0 0) := cell_of_row _ _ 0 _ _ _ rr
        have mr5_1 : u5.drew.cell? ⟨w.heap.size + 1, 1, none⟩ = some (.int .i64 0) := cell_of_row _ _ 1 _ _ _ rr
        have mr5_2 : u5.drew.cell? ⟨w.heap.size + 1, 2, none⟩ = some (.bool false) := cell_of_row _ _ 2 _ _ _ rr
        have mr5_3 : u5.drew.cell? ⟨w.heap.size + 1, 3, none⟩ = some (.int .i64 0) := cell_of_row _ _ 3 _ _ _ rr
        have mr5_4 : u5.drew.cell? ⟨w.heap.size + 1, 4, none⟩ = some (.bool false) := cell_of_row _ _ 4 _ _ _ rr
        have mr5_5 : u5.drew.cell? ⟨w.heap.size + 1, 5, none⟩ = some (.int .i64 0) := cell_of_row _ _ 5 _ _ _ rr
        have mx2_0 : u5.drew.cell? ⟨w4.heap.size, 0, none⟩ = some (.slice A2 d.length c2) := cell_of_row _ _ 0 _ _ _ rx
        have mx2_1 : u5.drew.cell? ⟨w4.heap.size, 1, none⟩ = some (.int .i64 ps) := cell_of_row _ _ 1 _ _ _ rx
        have mx2_2 : u5.drew.cell? ⟨w4.heap.size, 2, none⟩ = some (.bool pp) := cell_of_row _ _ 2 _ _ _ rx
        have mx2_3 : u5.drew.cell? ⟨w4.heap.size, 3, none⟩ = some (.int .i64 (t : Int)) := cell_of_row _ _ 3 _ _ _ rx
        have mx2_4 : u5.drew.cell? ⟨w4.heap.size, 4, none⟩ = some (.bool ph) := cell_of_row _ _ 4 _ _ _ rx
        have mx2_5 : u5.drew.cell? ⟨w4.heap.size, 5, none⟩ = some (.int .i64 pd) := cell_of_row _ _ 5 _ _ _ rx
        clear hn6
        refine wp_region_noPanic ?_
        refine wp_region_held_drew (S := fun w' => w'.cell? ⟨w.heap.size, 0, none⟩ = some (.slice (some ⟨b, o, none⟩) d.length c) ∧ w'.cell? ⟨w.heap.size, 1, none⟩ = some (.int .i64 ps) ∧ w'.cell? ⟨w.heap.size, 2, none⟩ = some (.bool pp) ∧ w'.cell? ⟨w.heap.size, 3, none⟩ = some (.int .i64 (t : Int)) ∧ w'.cell? ⟨w.heap.size, 4, none⟩ = some (.bool ph) ∧ w'.cell? ⟨w.heap.size, 5, none⟩ = some (.int .i64 pd)) (by kernel_rfl) ⟨ma6_0, ma6_1, ma6_2, ma6_3, ma6_4, ma6_5⟩ (fun hHeld => ?_)
        generalize u5.drew = u6 at *
        refine wpAnyH_take (i := 0) (v := ?_) rfl (by kernel_rfl) (by kernel_rfl) (by kernel_rfl) (fun _ _ _ h => h) (Or.inl ⟨by rfl, ?_⟩) (by assumption) ?_
        rotate_left
        · (intro wz hSw; (try dsimp only at hSw); go_simp; try with_reducible rfl)
        simp only [Act.put, List.getElem_toArray, List.getElem_cons_zero, List.getElem_cons_succ, List.setIfInBounds_toArray, List.set_cons_zero, List.set_cons_succ]
        refine wpAnyH_take (i := 1) (v := ?_) rfl (by kernel_rfl) (by kernel_rfl) (by kernel_rfl) (fun _ _ _ h => h) (Or.inl ⟨by rfl, ?_⟩) (by assumption) ?_
        rotate_left
        · (intro wz hSw; (try dsimp only at hSw); go_simp; try with_reducible rfl)
        simp only [Act.put, List.getElem_toArray, List.getElem_cons_zero, List.getElem_cons_succ, List.setIfInBounds_toArray, List.set_cons_zero, List.set_cons_succ]
        refine wpAnyH_take (i := 2) (v := ?_) rfl (by kernel_rfl) (by kernel_rfl) (by kernel_rfl) (fun _ _ _ h => h) (Or.inl ⟨by rfl, ?_⟩) (by assumption) ?_
        rotate_left
        · (intro wz hSw; (try dsimp only at hSw); go_simp; try with_reducible rfl)
        simp only [Act.put, List.getElem_toArray, List.getElem_cons_zero, List.getElem_cons_succ, List.setIfInBounds_toArray, List.set_cons_zero, List.set_cons_succ]
        refine wpAnyH_take (i := 3) (v := ?_) rfl (by kernel_rfl) (by kernel_rfl) (by kernel_rfl) (fun _ _ _ h => h) (Or.inl ⟨by rfl, ?_⟩) (by assumption) ?_
        rotate_left
        · (intro wz hSw; (try dsimp only at hSw); go_simp; try with_reducible rfl)
        simp only [Act.put, List.getElem_toArray, List.getElem_cons_zero, List.getElem_cons_succ, List.setIfInBounds_toArray, List.set_cons_zero, List.set_cons_succ]
        refine wpAnyH_take (i := 4) (v := ?_) rfl (by kernel_rfl) (by kernel_rfl) (by kernel_rfl) (fun _ _ _ h => h) (Or.inl ⟨by rfl, ?_⟩) (by assumption) ?_
        rotate_left
        · (intro wz hSw; (try dsimp only at hSw); go_simp; try with_reducible rfl)
        simp only [Act.put, List.getElem_toArray, List.getElem_cons_zero, List.getElem_cons_succ, List.setIfInBounds_toArray, List.set_cons_zero, List.set_cons_succ]
        refine wpAnyH_take (i := 5) (v := ?_) rfl (by kernel_rfl) (by kernel_rfl) (by kernel_rfl) (fun _ _ _ h => h) (Or.inl ⟨by rfl, ?_⟩) (by assumption) ?_
        rotate_left
        · (intro wz hSw; (try dsimp only at hSw); go_simp; try with_reducible rfl)
        simp only [Act.put, List.getElem_toArray, List.getElem_cons_zero, List.getElem_cons_succ, List.setIfInBounds_toArray, List.set_cons_zero, List.set_cons_succ]
        refine wpAnyH_take (i := 7) (v := ?_) rfl (by kernel_rfl) (by kernel_rfl) (by kernel_rfl) (fun _ _ _ h => h) (Or.inl ⟨by rfl, ?_⟩) (by assumption) ?_
        rotate_left
        · (intro wz hSw; (try dsimp only at hSw); go_simp; try with_reducible rfl)
        simp only [Act.put, List.getElem_toArray, List.getElem_cons_zero, List.getElem_cons_succ, List.setIfInBounds_toArray, List.set_cons_zero, List.set_cons_succ]
        refine wpAnyH_take (i := 8) (v := ?_) rfl (by kernel_rfl) (by kernel_rfl) (by kernel_rfl) (fun _ _ _ h => h) (Or.inl ⟨by rfl, ?_⟩) (by assumption) ?_
        rotate_left
        · (intro wz hSw; (try dsimp only at hSw); go_simp; try with_reducible rfl)
        simp only [Act.put, List.getElem_toArray, List.getElem_cons_zero, List.getElem_cons_succ, List.setIfInBounds_toArray, List.set_cons_zero, List.set_cons_succ]
        refine wpAnyH_ready (rs := [6]) (by kernel_rfl) (by simp) ?_
        refine AllReadyH.cons rfl (fun K hK => ?_) ?_
        · obtain ⟨hx0, hx1⟩ := h.ans_c t ht
          rw [HDT.out] at hx0 hx1
          simp only at hx0 hx1
          go_simp
          clear hx0 hx1
          refine hK.out _ _ ⟨ma6_0, ma6_1, ma6_2, ma6_3, ma6_4, ma6_5⟩ (fun hHeld => ?_)
          clear hK K
          try simp only [Act.put, List.getElem_toArray, List.getElem_cons_zero, List.getElem_cons_succ, List.setIfInBounds_toArray, List.set_cons_zero, List.set_cons_succ]
          refine wpAnyH_take (i := 9) (v := ?_) rfl (by kernel_rfl) (by kernel_rfl) (by kernel_rfl) (fun _ _ _ h => h) (Or.inl ⟨by rfl, ?_⟩) (by assumption) ?_
          rotate_left
          · (intro wz hSw; (try dsimp only at hSw); go_simp; try with_reducible rfl)
          simp only [Act.put, List.getElem_toArray, List.getElem_cons_zero, List.getElem_cons_succ, List.setIfInBounds_toArray, List.set_cons_zero, List.set_cons_succ]
          refine wpAnyH_done (by kernel_rfl) ?_ _
          refine NoPanic.normal ?_
          go_upto_region 6 with fail
          have z7 := frzRow rx 3
          replace ra := rowSet ra ⟨w4.heap.size, 3, none⟩ (.int .i64 m) (by show _ ≠ w4.heap.size; omega)
          replace rr := rowSet rr ⟨w4.heap.size, 3, none⟩ (.int .i64 m) (by show _ ≠ w4.heap.size; omega)
          replace rx : (u6.setCell ⟨w4.heap.size, 3, none⟩ (.int .i64 m)).heap[w4.heap.size]? = some (.cells #[.slice A2 d.length c2, .int .i64 ps, .bool pp, .int .i64 m, .bool ph, .int .i64 pd] 24 (0, 0)) := by rw [heap_setCell_same _ _ 3 _ _ _ rx]; rfl
          replace o2 := o2.setOther ⟨w4.heap.size, 3, none⟩ (.int .i64 m) (by show w4.heap.size < _ ∨ _ ≤ w4.heap.size; omega)
          replace h := h.setOther ⟨w4.heap.size, 3, none⟩ (.int .i64 m) (by show _ ≤ w4.heap.size; omega)
          replace hB := hB.setCell (p := ⟨w4.heap.size, 3, none⟩) (by show _ ≤ w4.heap.size; omega) (.int .i64 m)
          have s7 : u6.heap.size ≤ (u6.setCell ⟨w4.heap.size, 3, none⟩ (.int .i64 m)).heap.size := Nat.le_of_eq (World.size_setCell _ _ _).symm
          have ma7_0 : (u6.setCell ⟨w4.heap.size, 3, none⟩ (.int .i64 m)).cell? ⟨w.heap.size, 0, none⟩ = some (.slice (some ⟨b, o, none⟩) d.length c) := cell_of_row _ _ 0 _ _ _ ra
          have ma7_1 : (u6.setCell ⟨w4.heap.size, 3, none⟩ (.int .i64 m)).cell? ⟨w.heap.size, 1, none⟩ = some (.int .i64 ps) := cell_of_row _ _ 1 _ _ _ ra
          have ma7_2 : (u6.setCell ⟨w4.heap.size, 3, none⟩ (.int .i64 m)).cell? ⟨w.heap.size, 2, none⟩ = some (.bool pp) := cell_of_row _ _ 2 _ _ _ ra
          have ma7_3 : (u6.setCell ⟨w4.heap.size, 3, none⟩ (.int .i64 m)).cell? ⟨w.heap.size, 3, none⟩ = some (.int .i64 (t : Int)) := cell_of_row _ _ 3 _ _ _ ra
          have ma7_4 : (u6.setCell ⟨w4.heap.size, 3, none⟩ (.int .i64 m)).cell? ⟨w.heap.size, 4, none⟩ = some (.bool ph) := cell_of_row _ _ 4 _ _ _ ra
          have ma7_5 : (u6.setCell ⟨w4.heap.size, 3, none⟩ (.int .i64 m)).cell? ⟨w.heap.size, 5, none⟩ = some (.int .i64 pd) := cell_of_row _ _ 5 _ _ _ ra
          have mr6_0 : (u6.setCell ⟨w4.heap.size, 3, none⟩ (.int .i64 m)).cell? ⟨w.heap.size + 1, 0, none⟩ = some (.slice none 0 0) := cell_of_row _ _ 0 _ _ _ rr
          have mr6_1 : (u6.setCell ⟨w4.heap.size, 3, none⟩ (.int .i64 m)).cell? ⟨w.heap.size + 1, 1, none⟩ = some (.int .i64 0) := cell_of_row _ _ 1 _ _ _ rr
          have mr6_2 : (u6.setCell ⟨w4.heap.size, 3, none⟩ (.int .i64 m)).cell? ⟨w.heap.size + 1, 2, none⟩ = some (.bool false) := cell_of_row _ _ 2 _ _ _ rr
          have mr6_3 : (u6.setCell ⟨w4.heap.size, 3, none⟩ (.int .i64 m)).cell? ⟨w.heap.size + 1, 3, none⟩ = some (.int .i64 0) := cell_of_row _ _ 3 _ _ _ rr
          have mr6_4 : (u6.setCell ⟨w4.heap.size, 3, none⟩ (.int .i64 m)).cell? ⟨w.heap.size + 1, 4, none⟩ = some (.bool false) := cell_of_row _ _ 4 _ _ _ rr
          have mr6_5 : (u6.setCell ⟨w4.heap.size, 3, none⟩ (.int .i64 m)).cell? ⟨w.heap.size + 1, 5, none⟩ = some (.int .i64 0) := cell_of_row _ _ 5 _ _ _ rr
          have mx3_0 : (u6.setCell ⟨w4.heap.size, 3, none⟩ (.int .i64 m)).cell? ⟨w4.heap.size, 0, none⟩ = some (.slice A2 d.length c2) := cell_of_row _ _ 0 _ _ _ rx
          have mx3_1 : (u6.setCell ⟨w4.heap.size, 3, none⟩ (.int .i64 m)).cell? ⟨w4.heap.size, 1, none⟩ = some (.int .i64 ps) := cell_of_row _ _ 1 _ _ _ rx
          have mx3_2 : (u6.setCell ⟨w4.heap.size, 3, none⟩ (.int .i64 m)).cell? ⟨w4.heap.size, 2, none⟩ = some (.bool pp) := cell_of_row _ _ 2 _ _ _ rx
          have mx3_3 : (u6.setCell ⟨w4.heap.size, 3, none⟩ (.int .i64 m)).cell? ⟨w4.heap.size, 3, none⟩ = some (.int .i64 m) := cell_of_row _ _ 3 _ _ _ rx
          have mx3_4 : (u6.setCell ⟨w4.heap.size, 3, none⟩ (.int .i64 m)).cell? ⟨w4.heap.size, 4, none⟩ = some (.bool ph) := cell_of_row _ _ 4 _ _ _ rx
          have mx3_5 : (u6.setCell ⟨w4.heap.size, 3, none⟩ (.int .i64 m)).cell? ⟨w4.heap.size, 5, none⟩ = some (.int .i64 pd) := cell_of_row _ _ 5 _ _ _ rx
          go_upto_region 7 with fail
          clear z7 ma6_0 ma6_1 ma6_2 ma6_3 ma6_4 ma6_5 mr5_0 mr5_1 mr5_2 mr5_3 mr5_4 mr5_5 mx2_0 mx2_1 mx2_2 mx2_3 mx2_4 mx2_5
          generalize (u6.setCell ⟨w4.heap.size, 3, none⟩ (.int .i64 m)) = u7 at *
          have z8 := frzRow rx 4
          replace ra := rowSet ra ⟨w4.heap.size, 4, none⟩ (.bool (!ph)) (by show _ ≠ w4.heap.size; omega)
          replace rr := rowSet rr ⟨w4.heap.size, 4, none⟩ (.bool (!ph)) (by show _ ≠ w4.heap.size; omega)
          replace rx : (u7.setCell ⟨w4.heap.size, 4, none⟩ (.bool (!ph))).heap[w4.heap.size]? = some (.cells #[.slice A2 d.length c2, .int .i64 ps, .bool pp, .int .i64 m, .bool (!ph), .int .i64 pd] 24 (0, 0)) := by rw [heap_setCell_same _ _ 4 _ _ _ rx]; rfl
          replace o2 := o2.setOther ⟨w4.heap.size, 4, none⟩ (.bool (!ph)) (by show w4.heap.size < _ ∨ _ ≤ w4.heap.size; omega)
          replace h := h.setOther ⟨w4.heap.size, 4, none⟩ (.bool (!ph)) (by show _ ≤ w4.heap.size; omega)
          replace hB := hB.setCell (p := ⟨w4.heap.size, 4, none⟩) (by show _ ≤ w4.heap.size; omega) (.bool (!ph))
          have s8 : u7.heap.size ≤ (u7.setCell ⟨w4.heap.size, 4, none⟩ (.bool (!ph))).heap.size := Nat.le_of_eq (World.size_setCell _ _ _).symm
          have ma8_0 : (u7.setCell ⟨w4.heap.size, 4, none⟩ (.bool (!ph))).cell? ⟨w.heap.size, 0, none⟩ = some (.slice (some ⟨b, o, none⟩) d.length c) := cell_of_row _ _ 0 _ _ _ ra
          have ma8_1 : (u7.setCell ⟨w4.heap.size, 4, none⟩ (.bool (!ph))).cell? ⟨w.heap.size, 1, none⟩ = some (.int .i64 ps) := cell_of_row _ _ 1 _ _ _ ra
          have ma8_2 : (u7.setCell ⟨w4.heap.size, 4, none⟩ (.bool (!ph))).cell? ⟨w.heap.size, 2, none⟩ = some (.bool pp) := cell_of_row _ _ 2 _ _ _ ra
          have ma8_3 : (u7.setCell ⟨w4.heap.size, 4, none⟩ (.bool (!ph))).cell? ⟨w.heap.size, 3, none⟩ = some (.int .i64 (t : Int)) := cell_of_row _ _ 3 _ _ _ ra
          have ma8_4 : (u7.setCell ⟨w4.heap.size, 4, none⟩ (.bool (!ph))).cell? ⟨w.heap.size, 4, none⟩ = some (.bool ph) := cell_of_row _ _ 4 _ _ _ ra
          have ma8_5 : (u7.setCell ⟨w4.heap.size, 4, none⟩ (.bool (!ph))).cell? ⟨w.heap.size, 5, none⟩ = some (.int .i64 pd) := cell_of_row _ _ 5 _ _ _ ra
          have mr7_0 : (u7.setCell ⟨w4.heap.size, 4, none⟩ (.bool (!ph))).cell? ⟨w.heap.size + 1, 0, none⟩ = some (.slice none 0 0) := cell_of_row _ _ 0 _ _ _ rr
          have mr7_1 : (u7.setCell ⟨w4.heap.size, 4, none⟩ (.bool (!ph))).cell? ⟨w.heap.size + 1, 1, none⟩ = some (.int .i64 0) := cell_of_row _ _ 1 _ _ _ rr
          have mr7_2 : (u7.setCell ⟨w4.heap.size, 4, none⟩ (.bool (!ph))).cell? ⟨w.heap.size + 1, 2, none⟩ = some (.bool false) := cell_of_row _ _ 2 _ _ _ rr
          have mr7_3 : (u7.setCell ⟨w4.heap.size, 4, none⟩ (.bool (!ph))).cell? ⟨w.heap.size + 1, 3, none⟩ = some (.int .i64 0) := cell_of_row _ _ 3 _ _ _ rr
          have mr7_4 : (u7.setCell ⟨w4.heap.size, 4, none⟩ (.bool (!ph))).cell? ⟨w.heap.size + 1, 4, none⟩ = some (.bool false) := cell_of_row _ _ 4 _ _ _ rr
          have mr7_5 : (u7.setCell ⟨w4.heap.size, 4, none⟩ (.bool (!ph))).cell? ⟨w.heap.size + 1, 5, none⟩ = some (.int .i64 0) := cell_of_row _ _ 5 _ _ _ rr
          have mx4_0 : (u7.setCell ⟨w4.heap.size, 4, none⟩ (.bool (!ph))).cell? ⟨w4.heap.size, 0, none⟩ = some (.slice A2 d.length c2) := cell_of_row _ _ 0 _ _ _ rx
          have mx4_1 : (u7.setCell ⟨w4.heap.size, 4, none⟩ (.bool (!ph))).cell? ⟨w4.heap.size, 1, none⟩ = some (.int .i64 ps) := cell_of_row _ _ 1 _ _ _ rx
          have mx4_2 : (u7.setCell ⟨w4.heap.size, 4, none⟩ (.bool (!ph))).cell? ⟨w4.heap.size, 2, none⟩ = some (.bool pp) := cell_of_row _ _ 2 _ _ _ rx
          have mx4_3 : (u7.setCell ⟨w4.heap.size, 4, none⟩ (.bool (!ph))).cell? ⟨w4.heap.size, 3, none⟩ = some (.int .i64 m) := cell_of_row _ _ 3 _ _ _ rx
          have mx4_4 : (u7.setCell ⟨w4.heap.size, 4, none⟩ (.bool (!ph))).cell? ⟨w4.heap.size, 4, none⟩ = some (.bool (!ph)) := cell_of_row _ _ 4 _ _ _ rx
          have mx4_5 : (u7.setCell ⟨w4.heap.size, 4, none⟩ (.bool (!ph))).cell? ⟨w4.heap.size, 5, none⟩ = some (.int .i64 pd) := cell_of_row _ _ 5 _ _ _ rx
          go_upto_region 9 with fail
          clear z8 ma7_0 ma7_1 ma7_2 ma7_3 ma7_4 ma7_5 mr6_0 mr6_1 mr6_2 mr6_3 mr6_4 mr6_5 mx3_0 mx3_1 mx3_2 mx3_3 mx3_4 mx3_5
          generalize (u7.setCell ⟨w4.heap.size, 4, none⟩ (.bool (!ph))) = u8 at *
          have z9 := frzRow rx 5
          replace ra := rowSet ra ⟨w4.heap.size, 5, none⟩ (.int .i64 (pd - 1)) (by show _ ≠ w4.heap.size; omega)
          replace rr := rowSet rr ⟨w4.heap.size, 5, none⟩ (.int .i64 (pd - 1)) (by show _ ≠ w4.heap.size; omega)
          replace rx : (u8.setCell ⟨w4.heap.size, 5, none⟩ (.int .i64 (pd - 1))).heap[w4.heap.size]? = some (.cells #[.slice A2 d.length c2, .int .i64 ps, .bool pp, .int .i64 m, .bool (!ph), .int .i64 (pd - 1)] 24 (0, 0)) := by rw [heap_setCell_same _ _ 5 _ _ _ rx]; rfl
          replace o2 := o2.setOther ⟨w4.heap.size, 5, none⟩ (.int .i64 (pd - 1)) (by show w4.heap.size < _ ∨ _ ≤ w4.heap.size; omega)
          replace h := h.setOther ⟨w4.heap.size, 5, none⟩ (.int .i64 (pd - 1)) (by show _ ≤ w4.heap.size; omega)
          replace hB := hB.setCell (p := ⟨w4.heap.size, 5, none⟩) (by show _ ≤ w4.heap.size; omega) (.int .i64 (pd - 1))
          have s9 : u8.heap.size ≤ (u8.setCell ⟨w4.heap.size, 5, none⟩ (.int .i64 (pd - 1))).heap.size := Nat.le_of_eq (World.size_setCell _ _ _).symm
          have ma9_0 : (u8.setCell ⟨w4.heap.size, 5, none⟩ (.int .i64 (pd - 1))).cell? ⟨w.heap.size, 0, none⟩ = some (.slice (some ⟨b, o, none⟩) d.length c) := cell_of_row _ _ 0 _ _ _ ra
          have ma9_1 : (u8.setCell ⟨w4.heap.size, 5, none⟩ (.int .i64 (pd - 1))).cell? ⟨w.heap.size, 1, none⟩ = some (.int .i64 ps) := cell_of_row _ _ 1 _ _ _ ra
          have ma9_2 : (u8.setCell ⟨w4.heap.size, 5, none⟩ (.int .i64 (pd - 1))).cell? ⟨w.heap.size, 2, none⟩ = some (.bool pp) := cell_of_row _ _ 2 _ _ _ ra
          have ma9_3 : (u8.setCell ⟨w4.heap.size, 5, none⟩ (.int .i64 (pd - 1))).cell? ⟨w.heap.size, 3, none⟩ = some (.int .i64 (t : Int)) := cell_of_row _ _ 3 _ _ _ ra
          have ma9_4 : (u8.setCell ⟨w4.heap.size, 5, none⟩ (.int .i64 (pd - 1))).cell? ⟨w.heap.size, 4, none⟩ = some (.bool ph) := cell_of_row _ _ 4 _ _ _ ra
          have ma9_5 : (u8.setCell ⟨w4.heap.size, 5, none⟩ (.int .i64 (pd - 1))).cell? ⟨w.heap.size, 5, none⟩ = some (.int .i64 pd) := cell_of_row _ _ 5 _ _ _ ra
          have mr8_0 : (u8.setCell ⟨w4.heap.size, 5, none⟩ (.int .i64 (pd - 1))).cell? ⟨w.heap.size + 1, 0, none⟩ = some (.slice none 0 0) := cell_of_row _ _ 0 _ _ _ rr
          have mr8_1 : (u8.setCell ⟨w4.heap.size, 5, none⟩ (.int .i64 (pd - 1))).cell? ⟨w.heap.size + 1, 1, none⟩ = some (.int .i64 0) := cell_of_row _ _ 1 _ _ _ rr
          have mr8_2 : (u8.setCell ⟨w4.heap.size, 5, none⟩ (.int .i64 (pd - 1))).cell? ⟨w.heap.size + 1, 2, none⟩ = some (.bool false) := cell_of_row _ _ 2 _ _ _ rr
          have mr8_3 : (u8.setCell ⟨w4.heap.size, 5, none⟩ (.int .i64 (pd - 1))).cell? ⟨w.heap.size + 1, 3, none⟩ = some (.int .i64 0) := cell_of_row _ _ 3 _ _ _ rr
          have mr8_4 : (u8.setCell ⟨w4.heap.size, 5, none⟩ (.int .i64 (pd - 1))).cell? ⟨w.heap.size + 1, 4, none⟩ = some (.bool false) := cell_of_row _ _ 4 _ _ _ rr
          have mr8_5 : (u8.setCell ⟨w4.heap.size, 5, none⟩ (.int .i64 (pd - 1))).cell? ⟨w.heap.size + 1, 5, none⟩ = some (.int .i64 0) := cell_of_row _ _ 5 _ _ _ rr
          have mx5_0 : (u8.setCell ⟨w4.heap.size, 5, none⟩ (.int .i64 (pd - 1))).cell? ⟨w4.heap.size, 0, none⟩ = some (.slice A2 d.length c2) := cell_of_row _ _ 0 _ _ _ rx
          have mx5_1 : (u8.setCell ⟨w4.heap.size, 5, none⟩ (.int .i64 (pd - 1))).cell? ⟨w4.heap.size, 1, none⟩ = some (.int .i64 ps) := cell_of_row _ _ 1 _ _ _ rx
          have mx5_2 : (u8.setCell ⟨w4.heap.size, 5, none⟩ (.int .i64 (pd - 1))).cell? ⟨w4.heap.size, 2, none⟩ = some (.bool pp) := cell_of_row _ _ 2 _ _ _ rx
          have mx5_3 : (u8.setCell ⟨w4.heap.size, 5, none⟩ (.int .i64 (pd - 1))).cell? ⟨w4.heap.size, 3, none⟩ = some (.int .i64 m) := cell_of_row _ _ 3 _ _ _ rx
          have mx5_4 : (u8.setCell ⟨w4.heap.size, 5, none⟩ (.int .i64 (pd - 1))).cell? ⟨w4.heap.size, 4, none⟩ = some (.bool (!ph)) := cell_of_row _ _ 4 _ _ _ rx
          have mx5_5 : (u8.setCell ⟨w4.heap.size, 5, none⟩ (.int .i64 (pd - 1))).cell? ⟨w4.heap.size, 5, none⟩ = some (.int .i64 (pd - 1)) := cell_of_row _ _ 5 _ _ _ rx
          go_upto_region 10 with fail
          clear z9 ma8_0 ma8_1 ma8_2 ma8_3 ma8_4 ma8_5 mr7_0 mr7_1 mr7_2 mr7_3 mr7_4 mr7_5 mx4_0 mx4_1 mx4_2 mx4_3 mx4_4 mx4_5
          generalize (u8.setCell ⟨w4.heap.size, 5, none⟩ (.int .i64 (pd - 1))) = u9 at *
          have hn10 : Below u9.heap.size u9 u9.drew := below_drewN (Below.refl _ _) 1
          have s10 : u9.heap.size ≤ u9.drew.heap.size := Nat.le_refl _
          clear ma9_0 ma9_1 ma9_2 ma9_3 ma9_4 ma9_5
          clear mr8_0 mr8_1 mr8_2 mr8_3 mr8_4 mr8_5
          clear mx5_0 mx5_1 mx5_2 mx5_3 mx5_4 mx5_5
          replace ra := rowKeep ra hn10
          replace rr := rowKeep rr hn10
          replace rx := rowKeep rx hn10
          replace o2 := o2.below hn10
          replace h := h.below hn10 (by omega)
          replace hB := below_later hB hn10 (by omega)
          have ma10_0 : u9.drew.cell? ⟨w.heap.size, 0, none⟩ = some (.slice (some ⟨b, o, none⟩) d.length c) := cell_of_row _ _ 0 _ _ _ ra
          have ma10_1 : u9.drew.cell? ⟨w.heap.size, 1, none⟩ = some (.int .i64 ps) := cell_of_row _ _ 1 _ _ _ ra
          have ma10_2 : u9.drew.cell? ⟨w.heap.size, 2, none⟩ = some (.bool pp) := cell_of_row _ _ 2 _ _ _ ra
          have ma10_3 : u9.drew.cell? ⟨w.heap.size, 3, none⟩ = some (.int .i64 (t : Int)) := cell_of_row _ _ 3 _ _ _ ra
          have ma10_4 : u9.drew.cell? ⟨w.heap.size, 4, none⟩ = some (.bool ph) := cell_of_row _ _ 4 _ _ _ ra
          have ma10_5 : u9.drew.cell? ⟨w.heap.size, 5, none⟩ = some (.int .i64 pd) := cell_of_row _ _ 5 _ _ _ ra
          have mr9_0 : u9.drew.cell? ⟨w.heap.size + 1, 0, none⟩ = some (.slice none 0 0) := cell_of_row _ _ 0 _ _ _ rr
          have mr9_1 : u9.drew.cell? ⟨w.heap.size + 1, 1, none⟩ = some (.int .i64 0) := cell_of_row _ _ 1 _ _ _ rr
          have mr9_2 : u9.drew.cell? ⟨w.heap.size + 1, 2, none⟩ = some (.bool false) := cell_of_row _ _ 2 _ _ _ rr
          have mr9_3 : u9.drew.cell? ⟨w.heap.size + 1, 3, none⟩ = some (.int .i64 0) := cell_of_row _ _ 3 _ _ _ rr
          have mr9_4 : u9.drew.cell? ⟨w.heap.size + 1, 4, none⟩ = some (.bool false) := cell_of_row _ _ 4 _ _ _ rr
          have mr9_5 : u9.drew.cell? ⟨w.heap.size + 1, 5, none⟩ = some (.int .i64 0) := cell_of_row _ _ 5 _ _ _ rr
          have mx6_0 : u9.drew.cell? ⟨w4.heap.size, 0, none⟩ = some (.slice A2 d.length c2) := cell_of_row _ _ 0 _ _ _ rx
          have mx6_1 : u9.drew.cell? ⟨w4.heap.size, 1, none⟩ = some (.int .i64 ps) := cell_of_row _ _ 1 _ _ _ rx
          have mx6_2 : u9.drew.cell? ⟨w4.heap.size, 2, none⟩ = some (.bool pp) := cell_of_row _ _ 2 _ _ _ rx
          have mx6_3 : u9.drew.cell? ⟨w4.heap.size, 3, none⟩ = some (.int .i64 m) := cell_of_row _ _ 3 _ _ _ rx
          have mx6_4 : u9.drew.cell? ⟨w4.heap.size, 4, none⟩ = some (.bool (!ph)) := cell_of_row _ _ 4 _ _ _ rx
          have mx6_5 : u9.drew.cell? ⟨w4.heap.size, 5, none⟩ = some (.int .i64 (pd - 1)) := cell_of_row _ _ 5 _ _ _ rx
          clear hn10
          refine wp_region_noPanic ?_
          refine wp_region_held_drew (S := fun w' => w'.cell? ⟨w.heap.size, 0, none⟩ = some (.slice (some ⟨b, o, none⟩) d.length c) ∧ w'.cell? ⟨w.heap.size, 1, none⟩ = some (.int .i64 ps) ∧ w'.cell? ⟨w.heap.size, 2, none⟩ = some (.bool pp) ∧ w'.cell? ⟨w.heap.size, 3, none⟩ = some (.int .i64 (t : Int)) ∧ w'.cell? ⟨w.heap.size, 4, none⟩ = some (.bool ph) ∧ w'.cell? ⟨w.heap.size, 5, none⟩ = some (.int .i64 pd) ∧ w'.cell? ⟨w4.heap.size, 0, none⟩ = some (.slice A2 d.length c2) ∧ w'.cell? ⟨w4.heap.size, 1, none⟩ = some (.int .i64 ps) ∧ w'.cell? ⟨w4.heap.size, 2, none⟩ = some (.bool pp) ∧ w'.cell? ⟨w4.heap.size, 3, none⟩ = some (.int .i64 m) ∧ w'.cell? ⟨w4.heap.size, 4, none⟩ = some (.bool (!ph)) ∧ w'.cell? ⟨w4.heap.size, 5, none⟩ = some (.int .i64 (pd - 1))) (by kernel_rfl) ⟨ma10_0, ma10_1, ma10_2, ma10_3, ma10_4, ma10_5, mx6_0, mx6_1, mx6_2, mx6_3, mx6_4, mx6_5⟩ (fun hHeld => ?_)
          generalize u9.drew = u10 at *
          refine wpAnyH_take (i := 0) (v := ?_) rfl (by kernel_rfl) (by kernel_rfl) (by kernel_rfl) (fun _ _ _ h => h) (Or.inl ⟨by rfl, ?_⟩) (by assumption) ?_
          rotate_left
          · (intro wz hSw; (try dsimp only at hSw); go_simp; try with_reducible rfl)
          simp only [Act.put, List.getElem_toArray, List.getElem_cons_zero, List.getElem_cons_succ, List.setIfInBounds_toArray, List.set_cons_zero, List.set_cons_succ]
          refine wpAnyH_take (i := 1) (v := ?_) rfl (by kernel_rfl) (by kernel_rfl) (by kernel_rfl) (fun _ _ _ h => h) (Or.inl ⟨by rfl, ?_⟩) (by assumption) ?_
          rotate_left
          · (intro wz hSw; (try dsimp only at hSw); go_simp; try with_reducible rfl)
          simp only [Act.put, List.getElem_toArray, List.getElem_cons_zero, List.getElem_cons_succ, List.setIfInBounds_toArray, List.set_cons_zero, List.set_cons_succ]
          refine wpAnyH_take (i := 2) (v := ?_) rfl (by kernel_rfl) (by kernel_rfl) (by kernel_rfl) (fun _ _ _ h => h) (Or.inl ⟨by rfl, ?_⟩) (by assumption) ?_
          rotate_left
          · (intro wz hSw; (try dsimp only at hSw); go_simp; try with_reducible rfl)
          simp only [Act.put, List.getElem_toArray, List.getElem_cons_zero, List.getElem_cons_succ, List.setIfInBounds_toArray, List.set_cons_zero, List.set_cons_succ]
          refine wpAnyH_take (i := 3) (v := ?_) rfl (by kernel_rfl) (by kernel_rfl) (by kernel_rfl) (fun _ _ _ h => h) (Or.inl ⟨by rfl, ?_⟩) (by assumption) ?_
          rotate_left
          · (intro wz hSw; (try dsimp only at hSw); go_simp; try with_reducible rfl)
          simp only [Act.put, List.getElem_toArray, List.getElem_cons_zero, List.getElem_cons_succ, List.setIfInBounds_toArray, List.set_cons_zero, List.set_cons_succ]
          refine wpAnyH_take (i := 4) (v := ?_) rfl (by kernel_rfl) (by kernel_rfl) (by kernel_rfl) (fun _ _ _ h => h) (Or.inl ⟨by rfl, ?_⟩) (by assumption) ?_
          rotate_left
          · (intro wz hSw; (try dsimp only at hSw); go_simp; try with_reducible rfl)
          simp only [Act.put, List.getElem_toArray, List.getElem_cons_zero, List.getElem_cons_succ, List.setIfInBounds_toArray, List.set_cons_zero, List.set_cons_succ]
          refine wpAnyH_take (i := 5) (v := ?_) rfl (by kernel_rfl) (by kernel_rfl) (by kernel_rfl) (fun _ _ _ h => h) (Or.inl ⟨by rfl, ?_⟩) (by assumption) ?_
          rotate_left
          · (intro wz hSw; (try dsimp only at hSw); go_simp; try with_reducible rfl)
          simp only [Act.put, List.getElem_toArray, List.getElem_cons_zero, List.getElem_cons_succ, List.setIfInBounds_toArray, List.set_cons_zero, List.set_cons_succ]
          refine wpAnyH_take (i := 6) (v := ?_) rfl (by kernel_rfl) (by kernel_rfl) (by kernel_rfl) (fun _ _ _ h => h) (Or.inl ⟨by rfl, ?_⟩) (by assumption) ?_
          rotate_left
          · (intro wz hSw; (try dsimp only at hSw); go_simp; try with_reducible rfl)
          simp only [Act.put, List.getElem_toArray, List.getElem_cons_zero, List.getElem_cons_succ, List.setIfInBounds_toArray, List.set_cons_zero, List.set_cons_succ]
          refine wpAnyH_ready (rs := [7, 8]) (by kernel_rfl) (by simp) ?_
          refine AllReadyH.cons rfl (fun K hK => ?_) ?_
          · obtain ⟨hx0, hx1⟩ := h.ans_c t ht
            rw [HDT.out] at hx0 hx1
            simp only at hx0 hx1
            go_simp
            clear hx0 hx1
            refine hK.out _ _ ⟨ma10_0, ma10_1, ma10_2, ma10_3, ma10_4, ma10_5, mx6_0, mx6_1, mx6_2, mx6_3, mx6_4, mx6_5⟩ (fun hHeld => ?_)
            clear hK K
            try simp only [Act.put, List.getElem_toArray, List.getElem_cons_zero, List.getElem_cons_succ, List.setIfInBounds_toArray, List.set_cons_zero, List.set_cons_succ]
            refine wpAnyH_ready (rs := [8]) (by kernel_rfl) (by simp) ?_
            refine AllReadyH.cons rfl (fun K hK => ?_) ?_
            · have z11_0 := frzRow rr 0
              have z11_1 := frzRow rr 1
              have z11_2 := frzRow rr 2
              have z11_3 := frzRow rr 3
              have z11_4 := frzRow rr 4
              have z11_5 := frzRow rr 5
              replace ra := rowSet (rowSet (rowSet (rowSet (rowSet (rowSet (ra) ⟨w.heap.size + 1, 0, none⟩ (.slice A2 d.length c2) (by show _ ≠ w.heap.size + 1; omega)) ⟨w.heap.size + 1, 1, none⟩ (.int .i64 ps) (by show _ ≠ w.heap.size + 1; omega)) ⟨w.heap.size + 1, 2, none⟩ (.bool pp) (by show _ ≠ w.heap.size + 1; omega)) ⟨w.heap.size + 1, 3, none⟩ (.int .i64 m) (by show _ ≠ w.heap.size + 1; omega)) ⟨w.heap.size + 1, 4, none⟩ (.bool (!ph)) (by show _ ≠ w.heap.size + 1; omega)) ⟨w.heap.size + 1, 5, none⟩ (.int .i64 (pd - 1)) (by show _ ≠ w.heap.size + 1; omega)
              replace rx := rowSet (rowSet (rowSet (rowSet (rowSet (rowSet (rx) ⟨w.heap.size + 1, 0, none⟩ (.slice A2 d.length c2) (by show _ ≠ w.heap.size + 1; omega)) ⟨w.heap.size + 1, 1, none⟩ (.int .i64 ps) (by show _ ≠ w.heap.size + 1; omega)) ⟨w.heap.size + 1, 2, none⟩ (.bool pp) (by show _ ≠ w.heap.size + 1; omega)) ⟨w.heap.size + 1, 3, none⟩ (.int .i64 m) (by show _ ≠ w.heap.size + 1; omega)) ⟨w.heap.size + 1, 4, none⟩ (.bool (!ph)) (by show _ ≠ w.heap.size + 1; omega)) ⟨w.heap.size + 1, 5, none⟩ (.int .i64 (pd - 1)) (by show _ ≠ w.heap.size + 1; omega)
              replace rr := put5 (put4 (put3 (put2 (put1 (put0 (rr) (.slice A2 d.length c2)) (.int .i64 ps)) (.bool pp)) (.int .i64 m)) (.bool (!ph))) (.int .i64 (pd - 1))
              replace o2 := ((((((o2).setOther ⟨w.heap.size + 1, 0, none⟩ (.slice A2 d.length c2) (by show w.heap.size + 1 < _ ∨ _ ≤ w.heap.size + 1; omega)).setOther ⟨w.heap.size + 1, 1, none⟩ (.int .i64 ps) (by show w.heap.size + 1 < _ ∨ _ ≤ w.heap.size + 1; omega)).setOther ⟨w.heap.size + 1, 2, none⟩ (.bool pp) (by show w.heap.size + 1 < _ ∨ _ ≤ w.heap.size + 1; omega)).setOther ⟨w.heap.size + 1, 3, none⟩ (.int .i64 m) (by show w.heap.size + 1 < _ ∨ _ ≤ w.heap.size + 1; omega)).setOther ⟨w.heap.size + 1, 4, none⟩ (.bool (!ph)) (by show w.heap.size + 1 < _ ∨ _ ≤ w.heap.size + 1; omega)).setOther ⟨w.heap.size + 1, 5, none⟩ (.int .i64 (pd - 1)) (by show w.heap.size + 1 < _ ∨ _ ≤ w.heap.size + 1; omega)
              replace h := ((((((h).setOther ⟨w.heap.size + 1, 0, none⟩ (.slice A2 d.length c2) (by show _ ≤ w.heap.size + 1; omega)).setOther ⟨w.heap.size + 1, 1, none⟩ (.int .i64 ps) (by show _ ≤ w.heap.size + 1; omega)).setOther ⟨w.heap.size + 1, 2, none⟩ (.bool pp) (by show _ ≤ w.heap.size + 1; omega)).setOther ⟨w.heap.size + 1, 3, none⟩ (.int .i64 m) (by show _ ≤ w.heap.size + 1; omega)).setOther ⟨w.heap.size + 1, 4, none⟩ (.bool (!ph)) (by show _ ≤ w.heap.size + 1; omega)).setOther ⟨w.heap.size + 1, 5, none⟩ (.int .i64 (pd - 1)) (by show _ ≤ w.heap.size + 1; omega)
              replace hB := ((((((hB).setCell (p := ⟨w.heap.size + 1, 0, none⟩) (by show _ ≤ w.heap.size + 1; omega) (.slice A2 d.length c2)).setCell (p := ⟨w.heap.size + 1, 1, none⟩) (by show _ ≤ w.heap.size + 1; omega) (.int .i64 ps)).setCell (p := ⟨w.heap.size + 1, 2, none⟩) (by show _ ≤ w.heap.size + 1; omega) (.bool pp)).setCell (p := ⟨w.heap.size + 1, 3, none⟩) (by show _ ≤ w.heap.size + 1; omega) (.int .i64 m)).setCell (p := ⟨w.heap.size + 1, 4, none⟩) (by show _ ≤ w.heap.size + 1; omega) (.bool (!ph))).setCell (p := ⟨w.heap.size + 1, 5, none⟩) (by show _ ≤ w.heap.size + 1; omega) (.int .i64 (pd - 1))
              have s11 : u10.heap.size ≤ ((((((u10.setCell ⟨w.heap.size + 1, 0, none⟩ (.slice A2 d.length c2)).setCell ⟨w.heap.size + 1, 1, none⟩ (.int .i64 ps)).setCell ⟨w.heap.size + 1, 2, none⟩ (.bool pp)).setCell ⟨w.heap.size + 1, 3, none⟩ (.int .i64 m)).setCell ⟨w.heap.size + 1, 4, none⟩ (.bool (!ph))).setCell ⟨w.heap.size + 1, 5, none⟩ (.int .i64 (pd - 1))).heap.size := by simp only [World.size_setCell]; exact Nat.le_refl _
              have ma11_0 : ((((((u10.setCell ⟨w.heap.size + 1, 0, none⟩ (.slice A2 d.length c2)).setCell ⟨w.heap.size + 1, 1, none⟩ (.int .i64 ps)).setCell ⟨w.heap.size + 1, 2, none⟩ (.bool pp)).setCell ⟨w.heap.size + 1, 3, none⟩ (.int .i64 m)).setCell ⟨w.heap.size + 1, 4, none⟩ (.bool (!ph))).setCell ⟨w.heap.size + 1, 5, none⟩ (.int .i64 (pd - 1))).cell? ⟨w.heap.size, 0, none⟩ = some (.slice (some ⟨b, o, none⟩) d.length c) := cell_of_row _ _ 0 _ _ _ ra
              have ma11_1 : ((((((u10.setCell ⟨w.heap.size + 1, 0, none⟩ (.slice A2 d.length c2)).setCell ⟨w.heap.size + 1, 1, none⟩ (.int .i64 ps)).setCell ⟨w.heap.size + 1, 2, none⟩ (.bool pp)).setCell ⟨w.heap.size + 1, 3, none⟩ (.int .i64 m)).setCell ⟨w.heap.size + 1, 4, none⟩ (.bool (!ph))).setCell ⟨w.heap.size + 1, 5, none⟩ (.int .i64 (pd - 1))).cell? ⟨w.heap.size, 1, none⟩ = some (.int .i64 ps) := cell_of_row _ _ 1 _ _ _ ra
              have ma11_2 : ((((((u10.setCell ⟨w.heap.size + 1, 0, none⟩ (.slice A2 d.length c2)).setCell ⟨w.heap.size + 1, 1, none⟩ (.int .i64 ps)).setCell ⟨w.heap.size + 1, 2, none⟩ (.bool pp)).setCell ⟨w.heap.size + 1, 3, none⟩ (.int .i64 m)).setCell ⟨w.heap.size + 1, 4, none⟩ (.bool (!ph))).setCell ⟨w.heap.size + 1, 5, none⟩ (.int .i64 (pd - 1))).cell? ⟨w.heap.size, 2, none⟩ = some (.bool pp) := cell_of_row _ _ 2 _ _ _ ra
              have ma11_3 : ((((((u10.setCell ⟨w.heap.size + 1, 0, none⟩ (.slice A2 d.length c2)).setCell ⟨w.heap.size + 1, 1, none⟩ (.int .i64 ps)).setCell ⟨w.heap.size + 1, 2, none⟩ (.bool pp)).setCell ⟨w.heap.size + 1, 3, none⟩ (.int .i64 m)).setCell ⟨w.heap.size + 1, 4, none⟩ (.bool (!ph))).setCell ⟨w.heap.size + 1, 5, none⟩ (.int .i64 (pd - 1))).cell? ⟨w.heap.size, 3, none⟩ = some (.int .i64 (t : Int)) := cell_of_row _ _ 3 _ _ _ ra
              have ma11_4 : ((((((u10.setCell ⟨w.heap.size + 1, 0, none⟩ (.slice A2 d.length c2)).setCell ⟨w.heap.size + 1, 1, none⟩ (.int .i64 ps)).setCell ⟨w.heap.size + 1, 2, none⟩ (.bool pp)).setCell ⟨w.heap.size + 1, 3, none⟩ (.int .i64 m)).setCell ⟨w.heap.size + 1, 4, none⟩ (.bool (!ph))).setCell ⟨w.heap.size + 1, 5, none⟩ (.int .i64 (pd - 1))).cell? ⟨w.heap.size, 4, none⟩ = some (.bool ph) := cell_of_row _ _ 4 _ _ _ ra
              have ma11_5 : ((((((u10.setCell ⟨w.heap.size + 1, 0, none⟩ (.slice A2 d.length c2)).setCell ⟨w.heap.size + 1, 1, none⟩ (.int .i64 ps)).setCell ⟨w.heap.size + 1, 2, none⟩ (.bool pp)).setCell ⟨w.heap.size + 1, 3, none⟩ (.int .i64 m)).setCell ⟨w.heap.size + 1, 4, none⟩ (.bool (!ph))).setCell ⟨w.heap.size + 1, 5, none⟩ (.int .i64 (pd - 1))).cell? ⟨w.heap.size, 5, none⟩ = some (.int .i64 pd) := cell_of_row _ _ 5 _ _ _ ra
              have mr10_0 : ((((((u10.setCell ⟨w.heap.size + 1, 0, none⟩ (.slice A2 d.length c2)).setCell ⟨w.heap.size + 1, 1, none⟩ (.int .i64 ps)).setCell ⟨w.heap.size + 1, 2, none⟩ (.bool pp)).setCell ⟨w.heap.size + 1, 3, none⟩ (.int .i64 m)).setCell ⟨w.heap.size + 1, 4, none⟩ (.bool (!ph))).setCell ⟨w.heap.size + 1, 5, none⟩ (.int .i64 (pd - 1))).cell? ⟨w.heap.size + 1, 0, none⟩ = some (.slice A2 d.length c2) := cell_of_row _ _ 0 _ _ _ rr
              have mr10_1 : ((((((u10.setCell ⟨w.heap.size + 1, 0, none⟩ (.slice A2 d.length c2)).setCell ⟨w.heap.size + 1, 1, none⟩ (.int .i64 ps)).setCell ⟨w.heap.size + 1, 2, none⟩ (.bool pp)).setCell ⟨w.heap.size + 1, 3, none⟩ (.int .i64 m)).setCell ⟨w.heap.size + 1, 4, none⟩ (.bool (!ph))).setCell ⟨w.heap.size + 1, 5, none⟩ (.int .i64 (pd - 1))).cell? ⟨w.heap.size + 1, 1, none⟩ = some (.int .i64 ps) := cell_of_row _ _ 1 _ _ _ rr
              have mr10_2 : ((((((u10.setCell ⟨w.heap.size + 1, 0, none⟩ (.slice A2 d.length c2)).setCell ⟨w.heap.size + 1, 1, none⟩ (.int .i64 ps)).setCell ⟨w.heap.size + 1, 2, none⟩ (.bool pp)).setCell ⟨w.heap.size + 1, 3, none⟩ (.int .i64 m)).setCell ⟨w.heap.size + 1, 4, none⟩ (.bool (!ph))).setCell ⟨w.heap.size + 1, 5, none⟩ (.int .i64 (pd - 1))).cell? ⟨w.heap.size + 1, 2, none⟩ = some (.bool pp) := cell_of_row _ _ 2 _ _ _ rr
              have mr10_3 : ((((((u10.setCell ⟨w.heap.size + 1, 0, none⟩ (.slice A2 d.length c2)).setCell ⟨w.heap.size + 1, 1, none⟩ (.int .i64 ps)).setCell ⟨w.heap.size + 1, 2, none⟩ (.bool pp)).setCell ⟨w.heap.size + 1, 3, none⟩ (.int .i64 m)).setCell ⟨w.heap.size + 1, 4, none⟩ (.bool (!ph))).setCell ⟨w.heap.size + 1, 5, none⟩ (.int .i64 (pd - 1))).cell? ⟨w.heap.size + 1, 3, none⟩ = some (.int .i64 m) := cell_of_row _ _ 3 _ _ _ rr
              have mr10_4 : ((((((u10.setCell ⟨w.heap.size + 1, 0, none⟩ (.slice A2 d.length c2)).setCell ⟨w.heap.size + 1, 1, none⟩ (.int .i64 ps)).setCell ⟨w.heap.size + 1, 2, none⟩ (.bool pp)).setCell ⟨w.heap.size + 1, 3, none⟩ (.int .i64 m)).setCell ⟨w.heap.size + 1, 4, none⟩ (.bool (!ph))).setCell ⟨w.heap.size + 1, 5, none⟩ (.int .i64 (pd - 1))).cell? ⟨w.heap.size + 1, 4, none⟩ = some (.bool (!ph)) := cell_of_row _ _ 4 _ _ _ rr
              have mr10_5 : ((((((u10.setCell ⟨w.heap.size + 1, 0, none⟩ (.slice A2 d.length c2)).setCell ⟨w.heap.size + 1, 1, none⟩ (.int .i64 ps)).setCell ⟨w.heap.size + 1, 2, none⟩ (.bool pp)).setCell ⟨w.heap.size + 1, 3, none⟩ (.int .i64 m)).setCell ⟨w.heap.size + 1, 4, none⟩ (.bool (!ph))).setCell ⟨w.heap.size + 1, 5, none⟩ (.int .i64 (pd - 1))).cell? ⟨w.heap.size + 1, 5, none⟩ = some (.int .i64 (pd - 1)) := cell_of_row _ _ 5 _ _ _ rr
              have mx7_0 : ((((((u10.setCell ⟨w.heap.size + 1, 0, none⟩ (.slice A2 d.length c2)).setCell ⟨w.heap.size + 1, 1, none⟩ (.int .i64 ps)).setCell ⟨w.heap.size + 1, 2, none⟩ (.bool pp)).setCell ⟨w.heap.size + 1, 3, none⟩ (.int .i64 m)).setCell ⟨w.heap.size + 1, 4, none⟩ (.bool (!ph))).setCell ⟨w.heap.size + 1, 5, none⟩ (.int .i64 (pd - 1))).cell? ⟨w4.heap.size, 0, none⟩ = some (.slice A2 d.length c2) := cell_of_row _ _ 0 _ _ _ rx
              have mx7_1 : ((((((u10.setCell ⟨w.heap.size + 1, 0, none⟩ (.slice A2 d.length c2)).setCell ⟨w.heap.size + 1, 1, none⟩ (.int .i64 ps)).setCell ⟨w.heap.size + 1, 2, none⟩ (.bool pp)).setCell ⟨w.heap.size + 1, 3, none⟩ (.int .i64 m)).setCell ⟨w.heap.size + 1, 4, none⟩ (.bool (!ph))).setCell ⟨w.heap.size + 1, 5, none⟩ (.int .i64 (pd - 1))).cell? ⟨w4.heap.size, 1, none⟩ = some (.int .i64 ps) := cell_of_row _ _ 1 _ _ _ rx
              have mx7_2 : ((((((u10.setCell ⟨w.heap.size + 1, 0, none⟩ (.slice A2 d.length c2)).setCell ⟨w.heap.size + 1, 1, none⟩ (.int .i64 ps)).setCell ⟨w.heap.size + 1, 2, none⟩ (.bool pp)).setCell ⟨w.heap.size + 1, 3, none⟩ (.int .i64 m)).setCell ⟨w.heap.size + 1, 4, none⟩ (.bool (!ph))).setCell ⟨w.heap.size + 1, 5, none⟩ (.int .i64 (pd - 1))).cell? ⟨w4.heap.size, 2, none⟩ = some (.bool pp) := cell_of_row _ _ 2 _ _ _ rx
              have mx7_3 : ((((((u10.setCell ⟨w.heap.size + 1, 0, none⟩ (.slice A2 d.length c2)).setCell ⟨w.heap.size + 1, 1, none⟩ (.int .i64 ps)).setCell ⟨w.heap.size + 1, 2, none⟩ (.bool pp)).setCell ⟨w.heap.size + 1, 3, none⟩ (.int .i64 m)).setCell ⟨w.heap.size + 1, 4, none⟩ (.bool (!ph))).setCell ⟨w.heap.size + 1, 5, none⟩ (.int .i64 (pd - 1))).cell? ⟨w4.heap.size, 3, none⟩ = some (.int .i64 m) := cell_of_row _ _ 3 _ _ _ rx
              have mx7_4 : ((((((u10.setCell ⟨w.heap.size + 1, 0, none⟩ (.slice A2 d.length c2)).setCell ⟨w.heap.size + 1, 1, none⟩ (.int .i64 ps)).setCell ⟨w.heap.size + 1, 2, none⟩ (.bool pp)).setCell ⟨w.heap.size + 1, 3, none⟩ (.int .i64 m)).setCell ⟨w.heap.size + 1, 4, none⟩ (.bool (!ph))).setCell ⟨w.heap.size + 1, 5, none⟩ (.int .i64 (pd - 1))).cell? ⟨w4.heap.size, 4, none⟩ = some (.bool (!ph)) := cell_of_row _ _ 4 _ _ _ rx
              have mx7_5 : ((((((u10.setCell ⟨w.heap.size + 1, 0, none⟩ (.slice A2 d.length c2)).setCell ⟨w.heap.size + 1, 1, none⟩ (.int .i64 ps)).setCell ⟨w.heap.size + 1, 2, none⟩ (.bool pp)).setCell ⟨w.heap.size + 1, 3, none⟩ (.int .i64 m)).setCell ⟨w.heap.size + 1, 4, none⟩ (.bool (!ph))).setCell ⟨w.heap.size + 1, 5, none⟩ (.int .i64 (pd - 1))).cell? ⟨w4.heap.size, 5, none⟩ = some (.int .i64 (pd - 1)) := cell_of_row _ _ 5 _ _ _ rx
              go_simp
              refine hK.out _ _ ⟨ma11_0, ma11_1, ma11_2, ma11_3, ma11_4, ma11_5, mx7_0, mx7_1, mx7_2, mx7_3, mx7_4, mx7_5⟩ (fun hHeld => ?_)
              clear z11_0 z11_1 z11_2 z11_3 z11_4 z11_5 ma10_0 ma10_1 ma10_2 ma10_3 ma10_4 ma10_5 mr9_0 mr9_1 mr9_2 mr9_3 mr9_4 mr9_5 mx6_0 mx6_1 mx6_2 mx6_3 mx6_4 mx6_5
              generalize ((((((u10.setCell ⟨w.heap.size + 1, 0, none⟩ (.slice A2 d.length c2)).setCell ⟨w.heap.size + 1, 1, none⟩ (.int .i64 ps)).setCell ⟨w.heap.size + 1, 2, none⟩ (.bool pp)).setCell ⟨w.heap.size + 1, 3, none⟩ (.int .i64 m)).setCell ⟨w.heap.size + 1, 4, none⟩ (.bool (!ph))).setCell ⟨w.heap.size + 1, 5, none⟩ (.int .i64 (pd - 1))) = u11 at *
              clear hK K
              try simp only [Act.put, List.getElem_toArray, List.getElem_cons_zero, List.getElem_cons_succ, List.setIfInBounds_toArray, List.set_cons_zero, List.set_cons_succ]
              refine wpAnyH_take (i := 9) (v := ?_) rfl (by kernel_rfl) (by kernel_rfl) (by kernel_rfl) (fun _ _ _ h => h) (Or.inl ⟨by rfl, ?_⟩) (by assumption) ?_
              rotate_left
              · (intro wz hSw; (try dsimp only at hSw); go_simp; try with_reducible rfl)
              simp only [Act.put, List.getElem_toArray, List.getElem_cons_zero, List.getElem_cons_succ, List.setIfInBounds_toArray, List.set_cons_zero, List.set_cons_succ]
              refine wpAnyH_take (i := 10) (v := ?_) rfl (by kernel_rfl) (by kernel_rfl) (by kernel_rfl) (fun _ _ _ h => h) (Or.inl ⟨by rfl, ?_⟩) (by assumption) ?_
              rotate_left
              · (intro wz hSw; (try dsimp only at hSw); go_simp; try with_reducible rfl)
              simp only [Act.put, List.getElem_toArray, List.getElem_cons_zero, List.getElem_cons_succ, List.setIfInBounds_toArray, List.set_cons_zero, List.set_cons_succ]
              refine wpAnyH_done (by kernel_rfl) ?_ _
              refine NoPanic.normal ?_
              go_wp2_with fail
              refine bodyPost_ret (v := .tuple #[.agg #[.slice A2 d.length c2, .int .i64 ps, .bool pp, .int .i64 m, .bool (!ph), .int .i64 (pd - 1)], .int .i64 x, .bool true]) (by simp only [results, Try.results28]; simp [go_sem, mr10_0, mr10_1, mr10_2, mr10_3, mr10_4, mr10_5]) rfl ?_
              rw [HE.out, HF.out]
              exact RetF.of (f := fun y => .tuple #[ansR ps pp m (!ph) (pd - 1) y, .int .i64 x, .bool true]) o2 (by omega) (by omega) hB
            exact AllReadyH.nil
          refine AllReadyH.cons rfl (fun K hK => ?_) ?_
          · have z11_0 := frzRow rr 0
            have z11_1 := frzRow rr 1
            have z11_2 := frzRow rr 2
            have z11_3 := frzRow rr 3
            have z11_4 := frzRow rr 4
            have z11_5 := frzRow rr 5
            replace ra := rowSet (rowSet (rowSet (rowSet (rowSet (rowSet (ra) ⟨w.heap.size + 1, 0, none⟩ (.slice A2 d.length c2) (by show _ ≠ w.heap.size + 1; omega)) ⟨w.heap.size + 1, 1, none⟩ (.int .i64 ps) (by show _ ≠ w.heap.size + 1; omega)) ⟨w.heap.size + 1, 2, none⟩ (.bool pp) (by show _ ≠ w.heap.size + 1; omega)) ⟨w.heap.size + 1, 3, none⟩ (.int .i64 m) (by show _ ≠ w.heap.size + 1; omega)) ⟨w.heap.size + 1, 4, none⟩ (.bool (!ph)) (by show _ ≠ w.heap.size + 1; omega)) ⟨w.heap.size + 1, 5, none⟩ (.int .i64 (pd - 1)) (by show _ ≠ w.heap.size + 1; omega)
            replace rx := rowSet (rowSet (rowSet (rowSet (rowSet (rowSet (rx) ⟨w.heap.size + 1, 0, none⟩ (.slice A2 d.length c2) (by show _ ≠ w.heap.size + 1; omega)) ⟨w.heap.size + 1, 1, none⟩ (.int .i64 ps) (by show _ ≠ w.heap.size + 1; omega)) ⟨w.heap.size + 1, 2, none⟩ (.bool pp) (by show _ ≠ w.heap.size + 1; omega)) ⟨w.heap.size + 1, 3, none⟩ (.int .i64 m) (by show _ ≠ w.heap.size + 1; omega)) ⟨w.heap.size + 1, 4, none⟩ (.bool (!ph)) (by show _ ≠ w.heap.size + 1; omega)) ⟨w.heap.size + 1, 5, none⟩ (.int .i64 (pd - 1)) (by show _ ≠ w.heap.size + 1; omega)
            replace rr := put5 (put4 (put3 (put2 (put1 (put0 (rr) (.slice A2 d.length c2)) (.int .i64 ps)) (.bool pp)) (.int .i64 m)) (.bool (!ph))) (.int .i64 (pd - 1))
            replace o2 := ((((((o2).setOther ⟨w.heap.size + 1, 0, none⟩ (.slice A2 d.length c2) (by show w.heap.size + 1 < _ ∨ _ ≤ w.heap.size + 1; omega)).setOther ⟨w.heap.size + 1, 1, none⟩ (.int .i64 ps) (by show w.heap.size + 1 < _ ∨ _ ≤ w.heap.size + 1; omega)).setOther ⟨w.heap.size + 1, 2, none⟩ (.bool pp) (by show w.heap.size + 1 < _ ∨ _ ≤ w.heap.size + 1; omega)).setOther ⟨w.heap.size + 1, 3, none⟩ (.int .i64 m) (by show w.heap.size + 1 < _ ∨ _ ≤ w.heap.size + 1; omega)).setOther ⟨w.heap.size + 1, 4, none⟩ (.bool (!ph)) (by show w.heap.size + 1 < _ ∨ _ ≤ w.heap.size + 1; omega)).setOther ⟨w.heap.size + 1, 5, none⟩ (.int .i64 (pd - 1)) (by show w.heap.size + 1 < _ ∨ _ ≤ w.heap.size + 1; omega)
            replace h := ((((((h).setOther ⟨w.heap.size + 1, 0, none⟩ (.slice A2 d.length c2) (by show _ ≤ w.heap.size + 1; omega)).setOther ⟨w.heap.size + 1, 1, none⟩ (.int .i64 ps) (by show _ ≤ w.heap.size + 1; omega)).setOther ⟨w.heap.size + 1, 2, none⟩ (.bool pp) (by show _ ≤ w.heap.size + 1; omega)).setOther ⟨w.heap.size + 1, 3, none⟩ (.int .i64 m) (by show _ ≤ w.heap.size + 1; omega)).setOther ⟨w.heap.size + 1, 4, none⟩ (.bool (!ph)) (by show _ ≤ w.heap.size + 1; omega)).setOther ⟨w.heap.size + 1, 5, none⟩ (.int .i64 (pd - 1)) (by show _ ≤ w.heap.size + 1; omega)
            replace hB := ((((((hB).setCell (p := ⟨w.heap.size + 1, 0, none⟩) (by show _ ≤ w.heap.size + 1; omega) (.slice A2 d.length c2)).setCell (p := ⟨w.heap.size + 1, 1, none⟩) (by show _ ≤ w.heap.size + 1; omega) (.int .i64 ps)).setCell (p := ⟨w.heap.size + 1, 2, none⟩) (by show _ ≤ w.heap.size + 1; omega) (.bool pp)).setCell (p := ⟨w.heap.size + 1, 3, none⟩) (by show _ ≤ w.heap.size + 1; omega) (.int .i64 m)).setCell (p := ⟨w.heap.size + 1, 4, none⟩) (by show _ ≤ w.heap.size + 1; omega) (.bool (!ph))).setCell (p := ⟨w.heap.size + 1, 5, none⟩) (by show _ ≤ w.heap.size + 1; omega) (.int .i64 (pd - 1))
            have s11 : u10.heap.size ≤ ((((((u10.setCell ⟨w.heap.size + 1, 0, none⟩ (.slice A2 d.length c2)).setCell ⟨w.heap.size + 1, 1, none⟩ (.int .i64 ps)).setCell ⟨w.heap.size + 1, 2, none⟩ (.bool pp)).setCell ⟨w.heap.size + 1, 3, none⟩ (.int .i64 m)).setCell ⟨w.heap.size + 1, 4, none⟩ (.bool (!ph))).setCell ⟨w.heap.size + 1, 5, none⟩ (.int .i64 (pd - 1))).heap.size := by simp only [World.size_setCell]; exact Nat.le_refl _
            have ma11_0 : ((((((u10.setCell ⟨w.heap.size + 1, 0, none⟩ (.slice A2 d.length c2)).setCell ⟨w.heap.size + 1, 1, none⟩ (.int .i64 ps)).setCell ⟨w.heap.size + 1, 2, none⟩ (.bool pp)).setCell ⟨w.heap.size + 1, 3, none⟩ (.int .i64 m)).setCell ⟨w.heap.size + 1, 4, none⟩ (.bool (!ph))).setCell ⟨w.heap.size + 1, 5, none⟩ (.int .i64 (pd - 1))).cell? ⟨w.heap.size, 0, none⟩ = some (.slice (some ⟨b, o, none⟩) d.length c) := cell_of_row _ _ 0 _ _ _ ra
            have ma11_1 : ((((((u10.setCell ⟨w.heap.size + 1, 0, none⟩ (.slice A2 d.length c2)).setCell ⟨w.heap.size + 1, 1, none⟩ (.int .i64 ps)).setCell ⟨w.heap.size + 1, 2, none⟩ (.bool pp)).setCell ⟨w.heap.size + 1, 3, none⟩ (.int .i64 m)).setCell ⟨w.heap.size + 1, 4, none⟩ (.bool (!ph))).setCell ⟨w.heap.size + 1, 5, none⟩ (.int .i64 (pd - 1))).cell? ⟨w.heap.size, 1, none⟩ = some (.int .i64 ps) := cell_of_row _ _ 1 _ _ _ ra
            have ma11_2 : ((((((u10.setCell ⟨w.heap.size + 1, 0, none⟩ (.slice A2 d.length c2)).setCell ⟨w.heap.size + 1, 1, none⟩ (.int .i64 ps)).setCell ⟨w.heap.size + 1, 2, none⟩ (.bool pp)).setCell ⟨w.heap.size + 1, 3, none⟩ (.int .i64 m)).setCell ⟨w.heap.size + 1, 4, none⟩ (.bool (!ph))).setCell ⟨w.heap.size + 1, 5, none⟩ (.int .i64 (pd - 1))).cell? ⟨w.heap.size, 2, none⟩ = some (.bool pp) := cell_of_row _ _ 2 _ _ _ ra
            have ma11_3 : ((((((u10.setCell ⟨w.heap.size + 1, 0, none⟩ (.slice A2 d.length c2)).setCell ⟨w.heap.size + 1, 1, none⟩ (.int .i64 ps)).setCell ⟨w.heap.size + 1, 2, none⟩ (.bool pp)).setCell ⟨w.heap.size + 1, 3, none⟩ (.int .i64 m)).setCell ⟨w.heap.size + 1, 4, none⟩ (.bool (!ph))).setCell ⟨w.heap.size + 1, 5, none⟩ (.int .i64 (pd - 1))).cell? ⟨w.heap.size, 3, none⟩ = some (.int .i64 (t : Int)) := cell_of_row _ _ 3 _ _ _ ra
            have ma11_4 : ((((((u10.setCell ⟨w.heap.size + 1, 0, none⟩ (.slice A2 d.length c2)).setCell ⟨w.heap.size + 1, 1, none⟩ (.int .i64 ps)).setCell ⟨w.heap.size + 1, 2, none⟩ (.bool pp)).setCell ⟨w.heap.size + 1, 3, none⟩ (.int .i64 m)).setCell ⟨w.heap.size + 1, 4, none⟩ (.bool (!ph))).setCell ⟨w.heap.size + 1, 5, none⟩ (.int .i64 (pd - 1))).cell? ⟨w.heap.size, 4, none⟩ = some (.bool ph) := cell_of_row _ _ 4 _ _ _ ra
            have ma11_5 : ((((((u10.setCell ⟨w.heap.size + 1, 0, none⟩ (.slice A2 d.length c2)).setCell ⟨w.heap.size + 1, 1, none⟩ (.int .i64 ps)).setCell ⟨w.heap.size + 1, 2, none⟩ (.bool pp)).setCell ⟨w.heap.size + 1, 3, none⟩ (.int .i64 m)).setCell ⟨w.heap.size + 1, 4, none⟩ (.bool (!ph))).setCell ⟨w.heap.size + 1, 5, none⟩ (.int .i64 (pd - 1))).cell? ⟨w.heap.size, 5, none⟩ = some (.int .i64 pd) := cell_of_row _ _ 5 _ _ _ ra
            have mr10_0 : ((((((u10.setCell ⟨w.heap.size + 1, 0, none⟩ (.slice A2 d.length c2)).setCell ⟨w.heap.size + 1, 1, none⟩ (.int .i64 ps)).setCell ⟨w.heap.size + 1, 2, none⟩ (.bool pp)).setCell ⟨w.heap.size + 1, 3, none⟩ (.int .i64 m)).setCell ⟨w.heap.size + 1, 4, none⟩ (.bool (!ph))).setCell ⟨w.heap.size + 1, 5, none⟩ (.int .i64 (pd - 1))).cell? ⟨w.heap.size + 1, 0, none⟩ = some (.slice A2 d.length c2) := cell_of_row _ _ 0 _ _ _ rr
            have mr10_1 : ((((((u10.setCell ⟨w.heap.size + 1, 0, none⟩ (.slice A2 d.length c2)).setCell ⟨w.heap.size + 1, 1, none⟩ (.int .i64 ps)).setCell ⟨w.heap.size + 1, 2, none⟩ (.bool pp)).setCell ⟨w.heap.size + 1, 3, none⟩ (.int .i64 m)).setCell ⟨w.heap.size + 1, 4, none⟩ (.bool (!ph))).setCell ⟨w.heap.size + 1, 5, none⟩ (.int .i64 (pd - 1))).cell? ⟨w.heap.size + 1, 1, none⟩ = some (.int .i64 ps) := cell_of_row _ _ 1 _ _ _ rr
            have mr10_2 : ((((((u10.setCell ⟨w.heap.size + 1, 0, none⟩ (.slice A2 d.length c2)).setCell ⟨w.heap.size + 1, 1, none⟩ (.int .i64 ps)).setCell ⟨w.heap.size + 1, 2, none⟩ (.bool pp)).setCell ⟨w.heap.size + 1, 3, none⟩ (.int .i64 m)).setCell ⟨w.heap.size + 1, 4, none⟩ (.bool (!ph))).setCell ⟨w.heap.size + 1, 5, none⟩ (.int .i64 (pd - 1))).cell? ⟨w.heap.size + 1, 2, none⟩ = some (.bool pp) := cell_of_row _ _ 2 _ _ _ rr
            have mr10_3 : ((((((u10.setCell ⟨w.heap.size + 1, 0, none⟩ (.slice A2 d.length c2)).setCell ⟨w.heap.size + 1, 1, none⟩ (.int .i64 ps)).setCell ⟨w.heap.size + 1, 2, none⟩ (.bool pp)).setCell ⟨w.heap.size + 1, 3, none⟩ (.int .i64 m)).setCell ⟨w.heap.size + 1, 4, none⟩ (.bool (!ph))).setCell ⟨w.heap.size + 1, 5, none⟩ (.int .i64 (pd - 1))).cell? ⟨w.heap.size + 1, 3, none⟩ = some (.int .i64 m) := cell_of_row _ _ 3 _ _ _ rr
            have mr10_4 : ((((((u10.setCell ⟨w.heap.size + 1, 0, none⟩ (.slice A2 d.length c2)).setCell ⟨w.heap.size + 1, 1, none⟩ (.int .i64 ps)).setCell ⟨w.heap.size + 1, 2, none⟩ (.bool pp)).setCell ⟨w.heap.size + 1, 3, none⟩ (.int .i64 m)).setCell ⟨w.heap.size + 1, 4, none⟩ (.bool (!ph))).setCell ⟨w.heap.size + 1, 5, none⟩ (.int .i64 (pd - 1))).cell? ⟨w.heap.size + 1, 4, none⟩ = some (.bool (!ph)) := cell_of_row _ _ 4 _ _ _ rr
            have mr10_5 : ((((((u10.setCell ⟨w.heap.size + 1, 0, none⟩ (.slice A2 d.length c2)).setCell ⟨w.heap.size + 1, 1, none⟩ (.int .i64 ps)).setCell ⟨w.heap.size + 1, 2, none⟩ (.bool pp)).setCell ⟨w.heap.size + 1, 3, none⟩ (.int .i64 m)).setCell ⟨w.heap.size + 1, 4, none⟩ (.bool (!ph))).setCell ⟨w.heap.size + 1, 5, none⟩ (.int .i64 (pd - 1))).cell? ⟨w.heap.size + 1, 5, none⟩ = some (.int .i64 (pd - 1)) := cell_of_row _ _ 5 _ _ _ rr
            have mx7_0 : ((((((u10.setCell ⟨w.heap.size + 1, 0, none⟩ (.slice A2 d.length c2)).setCell ⟨w.heap.size + 1, 1, none⟩ (.int .i64 ps)).setCell ⟨w.heap.size + 1, 2, none⟩ (.bool pp)).setCell ⟨w.heap.size + 1, 3, none⟩ (.int .i64 m)).setCell ⟨w.heap.size + 1, 4, none⟩ (.bool (!ph))).setCell ⟨w.heap.size + 1, 5, none⟩ (.int .i64 (pd - 1))).cell? ⟨w4.heap.size, 0, none⟩ = some (.slice A2 d.length c2) := cell_of_row _ _ 0 _ _ _ rx
            have mx7_1 : ((((((u10.setCell ⟨w.heap.size + 1, 0, none⟩ (.slice A2 d.length c2)).setCell ⟨w.heap.size + 1, 1, none⟩ (.int .i64 ps)).setCell ⟨w.heap.size + 1, 2, none⟩ (.bool pp)).setCell ⟨w.heap.size + 1, 3, none⟩ (.int .i64 m)).setCell ⟨w.heap.size + 1, 4, none⟩ (.bool (!ph))).setCell ⟨w.heap.size + 1, 5, none⟩ (.int .i64 (pd - 1))).cell? ⟨w4.heap.size, 1, none⟩ = some (.int .i64 ps) := cell_of_row _ _ 1 _ _ _ rx
            have mx7_2 : ((((((u10.setCell ⟨w.heap.size + 1, 0, none⟩ (.slice A2 d.length c2)).setCell ⟨w.heap.size + 1, 1, none⟩ (.int .i64 ps)).setCell ⟨w.heap.size + 1, 2, none⟩ (.bool pp)).setCell ⟨w.heap.size + 1, 3, none⟩ (.int .i64 m)).setCell ⟨w.heap.size + 1, 4, none⟩ (.bool (!ph))).setCell ⟨w.heap.size + 1, 5, none⟩ (.int .i64 (pd - 1))).cell? ⟨w4.heap.size, 2, none⟩ = some (.bool pp) := cell_of_row _ _ 2 _ _ _ rx
            have mx7_3 : ((((((u10.setCell ⟨w.heap.size + 1, 0, none⟩ (.slice A2 d.length c2)).setCell ⟨w.heap.size + 1, 1, none⟩ (.int .i64 ps)).setCell ⟨w.heap.size + 1, 2, none⟩ (.bool pp)).setCell ⟨w.heap.size + 1, 3, none⟩ (.int .i64 m)).setCell ⟨w.heap.size + 1, 4, none⟩ (.bool (!ph))).setCell ⟨w.heap.size + 1, 5, none⟩ (.int .i64 (pd - 1))).cell? ⟨w4.heap.size, 3, none⟩ = some (.int .i64 m) := cell_of_row _ _ 3 _ _ _ rx
            have mx7_4 : ((((((u10.setCell ⟨w.heap.size + 1, 0, none⟩ (.slice A2 d.length c2)).setCell ⟨w.heap.size + 1, 1, none⟩ (.int .i64 ps)).setCell ⟨w.heap.size + 1, 2, none⟩ (.bool pp)).setCell ⟨w.heap.size + 1, 3, none⟩ (.int .i64 m)).setCell ⟨w.heap.size + 1, 4, none⟩ (.bool (!ph))).setCell ⟨w.heap.size + 1, 5, none⟩ (.int .i64 (pd - 1))).cell? ⟨w4.heap.size, 4, none⟩ = some (.bool (!ph)) := cell_of_row _ _ 4 _ _ _ rx
            have mx7_5 : ((((((u10.setCell ⟨w.heap.size + 1, 0, none⟩ (.slice A2 d.length c2)).setCell ⟨w.heap.size + 1, 1, none⟩ (.int .i64 ps)).setCell ⟨w.heap.size + 1, 2, none⟩ (.bool pp)).setCell ⟨w.heap.size + 1, 3, none⟩ (.int .i64 m)).setCell ⟨w.heap.size + 1, 4, none⟩ (.bool (!ph))).setCell ⟨w.heap.size + 1, 5, none⟩ (.int .i64 (pd - 1))).cell? ⟨w4.heap.size, 5, none⟩ = some (.int .i64 (pd - 1)) := cell_of_row _ _ 5 _ _ _ rx
            go_simp
            refine hK.out _ _ ⟨ma11_0, ma11_1, ma11_2, ma11_3, ma11_4, ma11_5, mx7_0, mx7_1, mx7_2, mx7_3, mx7_4, mx7_5⟩ (fun hHeld => ?_)
            clear z11_0 z11_1 z11_2 z11_3 z11_4 z11_5 ma10_0 ma10_1 ma10_2 ma10_3 ma10_4 ma10_5 mr9_0 mr9_1 mr9_2 mr9_3 mr9_4 mr9_5 mx6_0 mx6_1 mx6_2 mx6_3 mx6_4 mx6_5
            generalize ((((((u10.setCell ⟨w.heap.size + 1, 0, none⟩ (.slice A2 d.length c2)).setCell ⟨w.heap.size + 1, 1, none⟩ (.int .i64 ps)).setCell ⟨w.heap.size + 1, 2, none⟩ (.bool pp)).setCell ⟨w.heap.size + 1, 3, none⟩ (.int .i64 m)).setCell ⟨w.heap.size + 1, 4, none⟩ (.bool (!ph))).setCell ⟨w.heap.size + 1, 5, none⟩ (.int .i64 (pd - 1))) = u11 at *
            clear hK K
            try simp only [Act.put, List.getElem_toArray, List.getElem_cons_zero, List.getElem_cons_succ, List.setIfInBounds_toArray, List.set_cons_zero, List.set_cons_succ]
            refine wpAnyH_ready (rs := [7]) (by kernel_rfl) (by simp) ?_
            refine AllReadyH.cons rfl (fun K hK => ?_) ?_
            · obtain ⟨hx0, hx1⟩ := h.ans_c t ht
              rw [HDT.out] at hx0 hx1
              simp only at hx0 hx1
              go_simp
              clear hx0 hx1
              refine hK.out _ _ ⟨ma11_0, ma11_1, ma11_2, ma11_3, ma11_4, ma11_5, mx7_0, mx7_1, mx7_2, mx7_3, mx7_4, mx7_5⟩ (fun hHeld => ?_)
              clear hK K
              try simp only [Act.put, List.getElem_toArray, List.getElem_cons_zero, List.getElem_cons_succ, List.setIfInBounds_toArray, List.set_cons_zero, List.set_cons_succ]
              refine wpAnyH_take (i := 9) (v := ?_) rfl (by kernel_rfl) (by kernel_rfl) (by kernel_rfl) (fun _ _ _ h => h) (Or.inl ⟨by rfl, ?_⟩) (by assumption) ?_
              rotate_left
              · (intro wz hSw; (try dsimp only at hSw); go_simp; try with_reducible rfl)
              simp only [Act.put, List.getElem_toArray, List.getElem_cons_zero, List.getElem_cons_succ, List.setIfInBounds_toArray, List.set_cons_zero, List.set_cons_succ]
              refine wpAnyH_take (i := 10) (v := ?_) rfl (by kernel_rfl) (by kernel_rfl) (by kernel_rfl) (fun _ _ _ h => h) (Or.inl ⟨by rfl, ?_⟩) (by assumption) ?_
              rotate_left
              · (intro wz hSw; (try dsimp only at hSw); go_simp; try with_reducible rfl)
              simp only [Act.put, List.getElem_toArray, List.getElem_cons_zero, List.getElem_cons_succ, List.setIfInBounds_toArray, List.set_cons_zero, List.set_cons_succ]
              refine wpAnyH_done (by kernel_rfl) ?_ _
              refine NoPanic.normal ?_
              go_wp2_with fail
              refine bodyPost_ret (v := .tuple #[.agg #[.slice A2 d.length c2, .int .i64 ps, .bool pp, .int .i64 m, .bool (!ph), .int .i64 (pd - 1)], .int .i64 x, .bool true]) (by simp only [results, Try.results28]; simp [go_sem, mr10_0, mr10_1, mr10_2, mr10_3, mr10_4, mr10_5]) rfl ?_
              rw [HE.out, HF.out]
              exact RetF.of (f := fun y => .tuple #[ansR ps pp m (!ph) (pd - 1) y, .int .i64 x, .bool true]) o2 (by omega) (by omega) hB
            exact AllReadyH.nil
          exact AllReadyH.nil
        exact AllReadyH.nil
      · have hbz : (m == 0) = false := beq_eq_false_iff_ne.2 hz
        have HE := Lib.hid (show (atake ⟨d, ps, pp, (t : Int), ph, pd⟩).ents = d by rw [HP.out.1]; rfl)
        have HF := Lib.hid (show takeV ⟨d, ps, pp, (t : Int), ph, pd⟩ = fun y => .tuple #[ansR ps pp m ph (pd - 1) y, .int .i64 x, .bool true] by unfold takeV; rw [HP.out.1, HP.out.2.1, HP.out.2.2]; unfold acut ansW; simp only [Ans.n, hm, Int.toNat_natCast, HAV.out]; rw [decide_eq_false hz]; cases ph <;> rfl)
        clear hm hz
        have hn1 := below_new w (.cells #[.slice (some ⟨b, o, none⟩) d.length c, .int .i64 ps, .bool pp, .int .i64 (t : Int), .bool ph, .int .i64 pd] 24)
        replace h := h.below hn1 (by omega)
        replace hB := below_later hB hn1 (by omega)
        clear hn1
        have s1 : w.heap.size < (w.alloc (.cells #[.slice (some ⟨b, o, none⟩) d.length c, .int .i64 ps, .bool pp, .int .i64 (t : Int), .bool ph, .int .i64 pd] 24)).heap.size := Nat.lt_of_lt_of_eq (Nat.lt_succ_self _) (World.size_alloc _ _).symm
        have ra : (w.alloc (.cells #[.slice (some ⟨b, o, none⟩) d.length c, .int .i64 ps, .bool pp, .int .i64 (t : Int), .bool ph, .int .i64 pd] 24)).heap[w.heap.size]? = some (.cells #[.slice (some ⟨b, o, none⟩) d.length c, .int .i64 ps, .bool pp, .int .i64 (t : Int), .bool ph, .int .i64 pd] 24 (0, 0)) := by have q := heap_alloc_new w (.cells #[.slice (some ⟨b, o, none⟩) d.length c, .int .i64 ps, .bool pp, .int .i64 (t : Int), .bool ph, .int .i64 pd] 24); (try simp only [World.size_alloc, World.size_setCell] at q); exact q
        have ma1_0 : (w.alloc (.cells #[.slice (some ⟨b, o, none⟩) d.length c, .int .i64 ps, .bool pp, .int .i64 (t : Int), .bool ph, .int .i64 pd] 24)).cell? ⟨w.heap.size, 0, none⟩ = some (.slice (some ⟨b, o, none⟩) d.length c) := cell_of_row _ _ 0 _ _ _ ra
        have ma1_1 : (w.alloc (.cells #[.slice (some ⟨b, o, none⟩) d.length c, .int .i64 ps, .bool pp, .int .i64 (t : Int), .bool ph, .int .i64 pd] 24)).cell? ⟨w.heap.size, 1, none⟩ = some (.int .i64 ps) := cell_of_row _ _ 1 _ _ _ ra
        have ma1_2 : (w.alloc (.cells #[.slice (some ⟨b, o, none⟩) d.length c, .int .i64 ps, .bool pp, .int .i64 (t : Int), .bool ph, .int .i64 pd] 24)).cell? ⟨w.heap.size, 2, none⟩ = some (.bool pp) := cell_of_row _ _ 2 _ _ _ ra
        have ma1_3 : (w.alloc (.cells #[.slice (some ⟨b, o, none⟩) d.length c, .int .i64 ps, .bool pp, .int .i64 (t : Int), .bool ph, .int .i64 pd] 24)).cell? ⟨w.heap.size, 3, none⟩ = some (.int .i64 (t : Int)) := cell_of_row _ _ 3 _ _ _ ra
        have ma1_4 : (w.alloc (.cells #[.slice (some ⟨b, o, none⟩) d.length c, .int .i64 ps, .bool pp, .int .i64 (t : Int), .bool ph, .int .i64 pd] 24)).cell? ⟨w.heap.size, 4, none⟩ = some (.bool ph) := cell_of_row _ _ 4 _ _ _ ra
        have ma1_5 : (w.alloc (.cells #[.slice (some ⟨b, o, none⟩) d.length c, .int .i64 ps, .bool pp, .int .i64 (t : Int), .bool ph, .int .i64 pd] 24)).cell? ⟨w.heap.size, 5, none⟩ = some (.int .i64 pd) := cell_of_row _ _ 5 _ _ _ ra
        have hn2 := below_new (w.alloc (.cells #[.slice (some ⟨b, o, none⟩) d.length c, .int .i64 ps, .bool pp, .int .i64 (t : Int), .bool ph, .int .i64 pd] 24)) (.cells #[.slice none 0 0, .int .i64 0, .bool false, .int .i64 0, .bool false, .int .i64 0] 24)
        replace ra := rowKeep ra hn2
        replace h := h.below hn2 (by omega)
        replace hB := below_later hB hn2 (by omega)
        have ma2_0 : ((w.alloc (.cells #[.slice (some ⟨b, o, none⟩) d.length c, .int .i64 ps, .bool pp, .int .i64 (t : Int), .bool ph, .int .i64 pd] 24)).alloc (.cells #[.slice none 0 0, .int .i64 0, .bool false, .int .i64 0, .bool false, .int .i64 0] 24)).cell? ⟨w.heap.size, 0, none⟩ = some (.slice (some ⟨b, o, none⟩) d.length c) := cell_of_row _ _ 0 _ _ _ ra
        have ma2_1 : ((w.alloc (.cells #[.slice (some ⟨b, o, none⟩) d.length c, .int .i64 ps, .bool pp, .int .i64 (t : Int), .bool ph, .int .i64 pd] 24)).alloc (.cells #[.slice none 0 0, .int .i64 0, .bool false, .int .i64 0, .bool false, .int .i64 0] 24)).cell? ⟨w.heap.size, 1, none⟩ = some (.int .i64 ps) := cell_of_row _ _ 1 _ _ _ ra
        have ma2_2 : ((w.alloc (.cells #[.slice (some ⟨b, o, none⟩) d.length c, .int .i64 ps, .bool pp, .int .i64 (t : Int), .bool ph, .int .i64 pd] 24)).alloc (.cells #[.slice none 0 0, .int .i64 0, .bool false, .int .i64 0, .bool false, .int .i64 0] 24)).cell? ⟨w.heap.size, 2, none⟩ = some (.bool pp) := cell_of_row _ _ 2 _ _ _ ra
        have ma2_3 : ((w.alloc (.cells #[.slice (some ⟨b, o, none⟩) d.length c, .int .i64 ps, .bool pp, .int .i64 (t : Int), .bool ph, .int .i64 pd] 24)).alloc (.cells #[.slice none 0 0, .int .i64 0, .bool false, .int .i64 0, .bool false, .int .i64 0] 24)).cell? ⟨w.heap.size, 3, none⟩ = some (.int .i64 (t : Int)) := cell_of_row _ _ 3 _ _ _ ra
        have ma2_4 : ((w.alloc (.cells #[.slice (some ⟨b, o, none⟩) d.length c, .int .i64 ps, .bool pp, .int .i64 (t : Int), .bool ph, .int .i64 pd] 24)).alloc (.cells #[.slice none 0 0, .int .i64 0, .bool false, .int .i64 0, .bool false, .int .i64 0] 24)).cell? ⟨w.heap.size, 4, none⟩ = some (.bool ph) := cell_of_row _ _ 4 _ _ _ ra
        have ma2_5 : ((w.alloc (.cells #[.slice (some ⟨b, o, none⟩) d.length c, .int .i64 ps, .bool pp, .int .i64 (t : Int), .bool ph, .int .i64 pd] 24)).alloc (.cells #[.slice none 0 0, .int .i64 0, .bool false, .int .i64 0, .bool false, .int .i64 0] 24)).cell? ⟨w.heap.size, 5, none⟩ = some (.int .i64 pd) := cell_of_row _ _ 5 _ _ _ ra
        clear hn2
        have s2 : (w.alloc (.cells #[.slice (some ⟨b, o, none⟩) d.length c, .int .i64 ps, .bool pp, .int .i64 (t : Int), .bool ph, .int .i64 pd] 24)).heap.size < ((w.alloc (.cells #[.slice (some ⟨b, o, none⟩) d.length c, .int .i64 ps, .bool pp, .int .i64 (t : Int), .bool ph, .int .i64 pd] 24)).alloc (.cells #[.slice none 0 0, .int .i64 0, .bool false, .int .i64 0, .bool false, .int .i64 0] 24)).heap.size := Nat.lt_of_lt_of_eq (Nat.lt_succ_self _) (World.size_alloc _ _).symm
        have rr : ((w.alloc (.cells #[.slice (some ⟨b, o, none⟩) d.length c, .int .i64 ps, .bool pp, .int .i64 (t : Int), .bool ph, .int .i64 pd] 24)).alloc (.cells #[.slice none 0 0, .int .i64 0, .bool false, .int .i64 0, .bool false, .int .i64 0] 24)).heap[w.heap.size + 1]? = some (.cells #[.slice none 0 0, .int .i64 0, .bool false, .int .i64 0, .bool false, .int .i64 0] 24 (0, 0)) := by have q := heap_alloc_new (w.alloc (.cells #[.slice (some ⟨b, o, none⟩) d.length c, .int .i64 ps, .bool pp, .int .i64 (t : Int), .bool ph, .int .i64 pd] 24)) (.cells #[.slice none 0 0, .int .i64 0, .bool false, .int .i64 0, .bool false, .int .i64 0] 24); (try simp only [World.size_alloc, World.size_setCell] at q); exact q
        have mr1_0 : ((w.alloc (.cells #[.slice (some ⟨b, o, none⟩) d.length c, .int .i64 ps, .bool pp, .int .i64 (t : Int), .bool ph, .int .i64 pd] 24)).alloc (.cells #[.slice none 0 0, .int .i64 0, .bool false, .int .i64 0, .bool false, .int .i64 0] 24)).cell? ⟨w.heap.size + 1, 0, none⟩ = some (.slice none 0 0) := cell_of_row _ _ 0 _ _ _ rr
        have mr1_1 : ((w.alloc (.cells #[.slice (some ⟨b, o, none⟩) d.length c, .int .i64 ps, .bool pp, .int .i64 (t : Int), .bool ph, .int .i64 pd] 24)).alloc (.cells #[.slice none 0 0, .int .i64 0, .bool false, .int .i64 0, .bool false, .int .i64 0] 24)).cell? ⟨w.heap.size + 1, 1, none⟩ = some (.int .i64 0) := cell_of_row _ _ 1 _ _ _ rr
        have mr1_2 : ((w.alloc (.cells #[.slice (some ⟨b, o, none⟩) d.length c, .int .i64 ps, .bool pp, .int .i64 (t : Int), .bool ph, .int .i64 pd] 24)).alloc (.cells #[.slice none 0 0, .int .i64 0, .bool false, .int .i64 0, .bool false, .int .i64 0] 24)).cell? ⟨w.heap.size + 1, 2, none⟩ = some (.bool false) := cell_of_row _ _ 2 _ _ _ rr
        have mr1_3 : ((w.alloc (.cells #[.slice (some ⟨b, o, none⟩) d.length c, .int .i64 ps, .bool pp, .int .i64 (t : Int), .bool ph, .int .i64 pd] 24)).alloc (.cells #[.slice none 0 0, .int .i64 0, .bool false, .int .i64 0, .bool false, .int .i64 0] 24)).cell? ⟨w.heap.size + 1, 3, none⟩ = some (.int .i64 0) := cell_of_row _ _ 3 _ _ _ rr
        have mr1_4 : ((w.alloc (.cells #[.slice (some ⟨b, o, none⟩) d.length c, .int .i64 ps, .bool pp, .int .i64 (t : Int), .bool ph, .int .i64 pd] 24)).alloc (.cells #[.slice none 0 0, .int .i64 0, .bool false, .int .i64 0, .bool false, .int .i64 0] 24)).cell? ⟨w.heap.size + 1, 4, none⟩ = some (.bool false) := cell_of_row _ _ 4 _ _ _ rr
        have mr1_5 : ((w.alloc (.cells #[.slice (some ⟨b, o, none⟩) d.length c, .int .i64 ps, .bool pp, .int .i64 (t : Int), .bool ph, .int .i64 pd] 24)).alloc (.cells #[.slice none 0 0, .int .i64 0, .bool false, .int .i64 0, .bool false, .int .i64 0] 24)).cell? ⟨w.heap.size + 1, 5, none⟩ = some (.int .i64 0) := cell_of_row _ _ 5 _ _ _ rr
        go_enter Try.func28, Try.ntmps28
        go_wp2_with fail
        clear ma1_0 ma1_1 ma1_2 ma1_3 ma1_4 ma1_5
        generalize (w.alloc (.cells #[.slice (some ⟨b, o, none⟩) d.length c, .int .i64 ps, .bool pp, .int .i64 (t : Int), .bool ph, .int .i64 pd] 24)) = u1 at *
        generalize (u1.alloc (.cells #[.slice none 0 0, .int .i64 0, .bool false, .int .i64 0, .bool false, .int .i64 0] 24)) = u2 at *
        have q := specAnswersValid_any (some ⟨b, o, none⟩) d.length c _ d ps pp (t : Int) ph pd u2 h (by omega)
        rw [HV.out] at q
        refine q.mono ?_
        clear q
        rintro e w3 ⟨rfl, b3⟩
        have s3 := b3.size
        clear ma2_0 ma2_1 ma2_2 ma2_3 ma2_4 ma2_5
        clear mr1_0 mr1_1 mr1_2 mr1_3 mr1_4 mr1_5
        replace ra := rowKeep ra b3
        replace rr := rowKeep rr b3
        replace h := h.below b3 (by omega)
        replace hB := below_later hB b3 (by omega)
        have ma3_0 : w3.cell? ⟨w.heap.size, 0, none⟩ = some (.slice (some ⟨b, o, none⟩) d.length c) := cell_of_row _ _ 0 _ _ _ ra
        have ma3_1 : w3.cell? ⟨w.heap.size, 1, none⟩ = some (.int .i64 ps) := cell_of_row _ _ 1 _ _ _ ra
        have ma3_2 : w3.cell? ⟨w.heap.size, 2, none⟩ = some (.bool pp) := cell_of_row _ _ 2 _ _ _ ra
        have ma3_3 : w3.cell? ⟨w.heap.size, 3, none⟩ = some (.int .i64 (t : Int)) := cell_of_row _ _ 3 _ _ _ ra
        have ma3_4 : w3.cell? ⟨w.heap.size, 4, none⟩ = some (.bool ph) := cell_of_row _ _ 4 _ _ _ ra
        have ma3_5 : w3.cell? ⟨w.heap.size, 5, none⟩ = some (.int .i64 pd) := cell_of_row _ _ 5 _ _ _ ra
        have mr2_0 : w3.cell? ⟨w.heap.size + 1, 0, none⟩ = some (.slice none 0 0) := cell_of_row _ _ 0 _ _ _ rr
        have mr2_1 : w3.cell? ⟨w.heap.size + 1, 1, none⟩ = some (.int .i64 0) := cell_of_row _ _ 1 _ _ _ rr
        have mr2_2 : w3.cell? ⟨w.heap.size + 1, 2, none⟩ = some (.bool false) := cell_of_row _ _ 2 _ _ _ rr
        have mr2_3 : w3.cell? ⟨w.heap.size + 1, 3, none⟩ = some (.int .i64 0) := cell_of_row _ _ 3 _ _ _ rr
        have mr2_4 : w3.cell? ⟨w.heap.size + 1, 4, none⟩ = some (.bool false) := cell_of_row _ _ 4 _ _ _ rr
        have mr2_5 : w3.cell? ⟨w.heap.size + 1, 5, none⟩ = some (.int .i64 0) := cell_of_row _ _ 5 _ _ _ rr
        clear b3
        go_wp2_with fail
        have q := l4Copy_any (some ⟨b, o, none⟩) d.length c _ d ps pp (t : Int) ph pd w3 h (by omega) (by omega)
        refine q.mono ?_
        clear q
        rintro e w4 ⟨A2, c2, rfl, o2, b4⟩
        have s4 := b4.size
        clear ma3_0 ma3_1 ma3_2 ma3_3 ma3_4 ma3_5
        clear mr2_0 mr2_1 mr2_2 mr2_3 mr2_4 mr2_5
        replace ra := rowKeep ra b4
        replace rr := rowKeep rr b4
        replace h := h.below b4 (by omega)
        replace hB := below_later hB b4 (by omega)
        have ma4_0 : w4.cell? ⟨w.heap.size, 0, none⟩ = some (.slice (some ⟨b, o, none⟩) d.length c) := cell_of_row _ _ 0 _ _ _ ra
        have ma4_1 : w4.cell? ⟨w.heap.size, 1, none⟩ = some (.int .i64 ps) := cell_of_row _ _ 1 _ _ _ ra
        have ma4_2 : w4.cell? ⟨w.heap.size, 2, none⟩ = some (.bool pp) := cell_of_row _ _ 2 _ _ _ ra
        have ma4_3 : w4.cell? ⟨w.heap.size, 3, none⟩ = some (.int .i64 (t : Int)) := cell_of_row _ _ 3 _ _ _ ra
        have ma4_4 : w4.cell? ⟨w.heap.size, 4, none⟩ = some (.bool ph) := cell_of_row _ _ 4 _ _ _ ra
        have ma4_5 : w4.cell? ⟨w.heap.size, 5, none⟩ = some (.int .i64 pd) := cell_of_row _ _ 5 _ _ _ ra
        have mr3_0 : w4.cell? ⟨w.heap.size + 1, 0, none⟩ = some (.slice none 0 0) := cell_of_row _ _ 0 _ _ _ rr
        have mr3_1 : w4.cell? ⟨w.heap.size + 1, 1, none⟩ = some (.int .i64 0) := cell_of_row _ _ 1 _ _ _ rr
        have mr3_2 : w4.cell? ⟨w.heap.size + 1, 2, none⟩ = some (.bool false) := cell_of_row _ _ 2 _ _ _ rr
        have mr3_3 : w4.cell? ⟨w.heap.size + 1, 3, none⟩ = some (.int .i64 0) := cell_of_row _ _ 3 _ _ _ rr
        have mr3_4 : w4.cell? ⟨w.heap.size + 1, 4, none⟩ = some (.bool false) := cell_of_row _ _ 4 _ _ _ rr
        have mr3_5 : w4.cell? ⟨w.heap.size + 1, 5, none⟩ = some (.int .i64 0) := cell_of_row _ _ 5 _ _ _ rr
        clear b4
        simp only [ansR]
        have hn5 := below_new w4 (.cells #[.slice A2 d.length c2, .int .i64 ps, .bool pp, .int .i64 (t : Int), .bool ph, .int .i64 pd] 24)
        replace ra := rowKeep ra hn5
        replace rr := rowKeep rr hn5
        replace o2 := o2.below hn5
        replace h := h.below hn5 (by omega)
        replace hB := below_later hB hn5 (by omega)
        have ma5_0 : (w4.alloc (.cells #[.slice A2 d.length c2, .int .i64 ps, .bool pp, .int .i64 (t : Int), .bool ph, .int .i64 pd] 24)).cell? ⟨w.heap.size, 0, none⟩ = some (.slice (some ⟨b, o, none⟩) d.length c) := cell_of_row _ _ 0 _ _ _ ra
        have ma5_1 : (w4.alloc (.cells #[.slice A2 d.length c2, .int .i64 ps, .bool pp, .int .i64 (t : Int), .bool ph, .int .i64 pd] 24)).cell? ⟨w.heap.size, 1, none⟩ = some (.int .i64 ps) := cell_of_row _ _ 1 _ _ _ ra
        have ma5_2 : (w4.alloc (.cells #[.slice A2 d.length c2, .int .i64 ps, .bool pp, .int .i64 (t : Int), .bool ph, .int .i64 pd] 24)).cell? ⟨w.heap.size, 2, none⟩ = some (.bool pp) := cell_of_row _ _ 2 _ _ _ ra
        have ma5_3 : (w4.alloc (.cells #[.slice A2 d.length c2, .int .i64 ps, .bool pp, .int .i64 (t : Int), .bool ph, .int .i64 pd] 24)).cell? ⟨w.heap.size, 3, none⟩ = some (.int .i64 (t : Int)) := cell_of_row _ _ 3 _ _ _ ra
        have ma5_4 : (w4.alloc (.cells #[.slice A2 d.length c2, .int .i64 ps, .bool pp, .int .i64 (t : Int), .bool ph, .int .i64 pd] 24)).cell? ⟨w.heap.size, 4, none⟩ = some (.bool ph) := cell_of_row _ _ 4 _ _ _ ra
        have ma5_5 : (w4.alloc (.cells #[.slice A2 d.length c2, .int .i64 ps, .bool pp, .int .i64 (t : Int), .bool ph, .int .i64 pd] 24)).cell? ⟨w.heap.size, 5, none⟩ = some (.int .i64 pd) := cell_of_row _ _ 5 _ _ _ ra
        have mr4_0 : (w4.alloc (.cells #[.slice A2 d.length c2, .int .i64 ps, .bool pp, .int .i64 (t : Int), .bool ph, .int .i64 pd] 24)).cell? ⟨w.heap.size + 1, 0, none⟩ = some (.slice none 0 0) := cell_of_row _ _ 0 _ _ _ rr
        have mr4_1 : (w4.alloc (.cells #[.slice A2 d.length c2, .int .i64 ps, .bool pp, .int .i64 (t : Int), .bool ph, .int .i64 pd] 24)).cell? ⟨w.heap.size + 1, 1, none⟩ = some (.int .i64 0) := cell_of_row _ _ 1 _ _ _ rr
        have mr4_2 : (w4.alloc (.cells #[.slice A2 d.length c2, .int .i64 ps, .bool pp, .int .i64 (t : Int), .bool ph, .int .i64 pd] 24)).cell? ⟨w.heap.size + 1, 2, none⟩ = some (.bool false) := cell_of_row _ _ 2 _ _ _ rr
        have mr4_3 : (w4.alloc (.cells #[.slice A2 d.length c2, .int .i64 ps, .bool pp, .int .i64 (t : Int), .bool ph, .int .i64 pd] 24)).cell? ⟨w.heap.size + 1, 3, none⟩ = some (.int .i64 0) := cell_of_row _ _ 3 _ _ _ rr
        have mr4_4 : (w4.alloc (.cells #[.slice A2 d.length c2, .int .i64 ps, .bool pp, .int .i64 (t : Int), .bool ph, .int .i64 pd] 24)).cell? ⟨w.heap.size + 1, 4, none⟩ = some (.bool false) := cell_of_row _ _ 4 _ _ _ rr
        have mr4_5 : (w4.alloc (.cells #[.slice A2 d.length c2, .int .i64 ps, .bool pp, .int .i64 (t : Int), .bool ph, .int .i64 pd] 24)).cell? ⟨w.heap.size + 1, 5, none⟩ = some (.int .i64 0) := cell_of_row _ _ 5 _ _ _ rr
        clear hn5
        have s5 : w4.heap.size < (w4.alloc (.cells #[.slice A2 d.length c2, .int .i64 ps, .bool pp, .int .i64 (t : Int), .bool ph, .int .i64 pd] 24)).heap.size := Nat.lt_of_lt_of_eq (Nat.lt_succ_self _) (World.size_alloc _ _).symm
        have rx : (w4.alloc (.cells #[.slice A2 d.length c2, .int .i64 ps, .bool pp, .int .i64 (t : Int), .bool ph, .int .i64 pd] 24)).heap[w4.heap.size]? = some (.cells #[.slice A2 d.length c2, .int .i64 ps, .bool pp, .int .i64 (t : Int), .bool ph, .int .i64 pd] 24 (0, 0)) := by have q := heap_alloc_new w4 (.cells #[.slice A2 d.length c2, .int .i64 ps, .bool pp, .int .i64 (t : Int), .bool ph, .int .i64 pd] 24); (try simp only [World.size_alloc, World.size_setCell] at q); exact q
        have mx1_0 : (w4.alloc (.cells #[.slice A2 d.length c2, .int .i64 ps, .bool pp, .int .i64 (t : Int), .bool ph, .int .i64 pd] 24)).cell? ⟨w4.heap.size, 0, none⟩ = some (.slice A2 d.length c2) := cell_of_row _ _ 0 _ _ _ rx
        have mx1_1 : (w4.alloc (.cells #[.slice A2 d.length c2, .int .i64 ps, .bool pp, .int .i64 (t : Int), .bool ph, .int .i64 pd] 24)).cell? ⟨w4.heap.size, 1, none⟩ = some (.int .i64 ps) := cell_of_row _ _ 1 _ _ _ rx
        have mx1_2 : (w4.alloc (.cells #[.slice A2 d.length c2, .int .i64 ps, .bool pp, .int .i64 (t : Int), .bool ph, .int .i64 pd] 24)).cell? ⟨w4.heap.size, 2, none⟩ = some (.bool pp) := cell_of_row _ _ 2 _ _ _ rx
        have mx1_3 : (w4.alloc (.cells #[.slice A2 d.length c2, .int .i64 ps, .bool pp, .int .i64 (t : Int), .bool ph, .int .i64 pd] 24)).cell? ⟨w4.heap.size, 3, none⟩ = some (.int .i64 (t : Int)) := cell_of_row _ _ 3 _ _ _ rx
        have mx1_4 : (w4.alloc (.cells #[.slice A2 d.length c2, .int .i64 ps, .bool pp, .int .i64 (t : Int), .bool ph, .int .i64 pd] 24)).cell? ⟨w4.heap.size, 4, none⟩ = some (.bool ph) := cell_of_row _ _ 4 _ _ _ rx
        have mx1_5 : (w4.alloc (.cells #[.slice A2 d.length c2, .int .i64 ps, .bool pp, .int .i64 (t : Int), .bool ph, .int .i64 pd] 24)).cell? ⟨w4.heap.size, 5, none⟩ = some (.int .i64 pd) := cell_of_row _ _ 5 _ _ _ rx
        go_upto_region 4 with fail
        clear ma4_0 ma4_1 ma4_2 ma4_3 ma4_4 ma4_5 mr3_0 mr3_1 mr3_2 mr3_3 mr3_4 mr3_5
        generalize (w4.alloc (.cells #[.slice A2 d.length c2, .int .i64 ps, .bool pp, .int .i64 (t : Int), .bool ph, .int .i64 pd] 24)) = u5 at *
        have hn6 : Below u5.heap.size u5 u5.drew := below_drewN (Below.refl _ _) 1
        have s6 : u5.heap.size ≤ u5.drew.heap.size := Nat.le_refl _
        clear ma5_0 ma5_1 ma5_2 ma5_3 ma5_4 ma5_5
        clear mr4_0 mr4_1 mr4_2 mr4_3 mr4_4 mr4_5
        clear mx1_0 mx1_1 mx1_2 mx1_3 mx1_4 mx1_5
        replace ra := rowKeep ra hn6
        replace rr := rowKeep rr hn6
        replace rx := rowKeep rx hn6
        replace o2 := o2.below hn6
        replace h := h.below hn6 (by omega)
        replace hB := below_later hB hn6 (by omega)
        have ma6_0 : u5.drew.cell? ⟨w.heap.size, 0, none⟩ = some (.slice (some ⟨b, o, none⟩) d.length c) := cell_of_row _ _ 0 _ _ _ ra
        have ma6_1 : u5.drew.cell? ⟨w.heap.size, 1, none⟩ = some (.int .i64 ps) := cell_of_row _ _ 1 _ _ _ ra
        have ma6_2 : u5.drew.cell? ⟨w.heap.size, 2, none⟩ = some (.bool pp) := cell_of_row _ _ 2 _ _ _ ra
        have ma6_3 : u5.drew.cell? ⟨w.heap.size, 3, none⟩ = some (.int .i64 (t : Int)) := cell_of_row _ _ 3 _ _ _ ra
        have ma6_4 : u5.drew.cell? ⟨w.heap.size, 4, none⟩ = some (.bool ph) := cell_of_row _ _ 4 _ _ _ ra
        have ma6_5 : u5.drew.cell? ⟨w.heap.size, 5, none⟩ = some (.int .i64 pd) := cell_of_row _ _ 5 _ _ _ ra
        have mr5_0 : u5.drew.cell? ⟨w.heap.size + 1, 0, none⟩ = some (.slice none 0 0) := cell_of_row _ _ 0 _ _ _ rr
        have mr5_1 : u5.drew.cell? ⟨w.heap.size + 1, 1, none⟩ = some (.int .i64 0) := cell_of_row _ _ 1 _ _ _ rr
        have mr5_2 : u5.drew.cell? ⟨w.heap.size + 1, 2, none⟩ = some (.bool false) := cell_of_row _ _ 2 _ _ _ rr
        have mr5_3 : u5.drew.cell? ⟨w.heap.size + 1, 3, none⟩ = some (.int .i64 0) := cell_of_row _ _ 3 _ _ _ rr
        have mr5_4 : u5.drew.cell? ⟨w.heap.size + 1, 4, none⟩ = some (.bool false) := cell_of_row _ _ 4 _ _ _ rr
        have mr5_5 : u5.drew.cell? ⟨w.heap.size + 1, 5, none⟩ = some (.int .i64 0) := cell_of_row _ _ 5 _ _ _ rr
        have mx2_0 : u5.drew.cell? ⟨w4.heap.size, 0, none⟩ = some (.slice A2 d.length c2) := cell_of_row _ _ 0 _ _ _ rx
        have mx2_1 : u5.drew.cell? ⟨w4.heap.size, 1, none⟩ = some (.int .i64 ps) := cell_of_row _ _ 1 _ _ _ rx
        have mx2_2 : u5.drew.cell? ⟨w4.heap.size, 2, none⟩ = some (.bool pp) := cell_of_row _ _ 2 _ _ _ rx
        have mx2_3 : u5.drew.cell? ⟨w4.heap.size, 3, none⟩ = some (.int .i64 (t : Int)) := cell_of_row _ _ 3 _ _ _ rx
        have mx2_4 : u5.drew.cell? ⟨w4.heap.size, 4, none⟩ = some (.bool ph) := cell_of_row _ _ 4 _ _ _ rx
        have mx2_5 : u5.drew.cell? ⟨w4.heap.size, 5, none⟩ = some (.int .i64 pd) := cell_of_row _ _ 5 _ _ _ rx
        clear hn6
        refine wp_region_noPanic ?_
        refine wp_region_held_drew (S := fun w' => w'.cell? ⟨w.heap.size, 0, none⟩ = some (.slice (some ⟨b, o, none⟩) d.length c) ∧ w'.cell? ⟨w.heap.size, 1, none⟩ = some (.int .i64 ps) ∧ w'.cell? ⟨w.heap.size, 2, none⟩ = some (.bool pp) ∧ w'.cell? ⟨w.heap.size, 3, none⟩ = some (.int .i64 (t : Int)) ∧ w'.cell? ⟨w.heap.size, 4, none⟩ = some (.bool ph) ∧ w'.cell? ⟨w.heap.size, 5, none⟩ = some (.int .i64 pd)) (by kernel_rfl) ⟨ma6_0, ma6_1, ma6_2, ma6_3, ma6_4, ma6_5⟩ (fun hHeld => ?_)
        generalize u5.drew = u6 at *
        refine wpAnyH_take (i := 0) (v := ?_) rfl (by kernel_rfl) (by kernel_rfl) (by kernel_rfl) (fun _ _ _ h => h) (Or.inl ⟨by rfl, ?_⟩) (by assumption) ?_
        rotate_left
        · (intro wz hSw; (try dsimp only at hSw); go_simp; try with_reducible rfl)
        simp only [Act.put, List.getElem_toArray, List.getElem_cons_zero, List.getElem_cons_succ, List.setIfInBounds_toArray, List.set_cons_zero, List.set_cons_succ]
        refine wpAnyH_take (i := 1) (v := ?_) rfl (by kernel_rfl) (by kernel_rfl) (by kernel_rfl) (fun _ _ _ h => h) (Or.inl ⟨by rfl, ?_⟩) (by assumption) ?_
        rotate_left
        · (intro wz hSw; (try dsimp only at hSw); go_simp; try with_reducible rfl)
        simp only [Act.put, List.getElem_toArray, List.getElem_cons_zero, List.getElem_cons_succ, List.setIfInBounds_toArray, List.set_cons_zero, List.set_cons_succ]
        refine wpAnyH_take (i := 2) (v := ?_) rfl (by kernel_rfl) (by kernel_rfl) (by kernel_rfl) (fun _ _ _ h => h) (Or.inl ⟨by rfl, ?_⟩) (by assumption) ?_
        rotate_left
        · (intro wz hSw; (try dsimp only at hSw); go_simp; try with_reducible rfl)
        simp only [Act.put, List.getElem_toArray, List.getElem_cons_zero, List.getElem_cons_succ, List.setIfInBounds_toArray, List.set_cons_zero, List.set_cons_succ]
        refine wpAnyH_take (i := 3) (v := ?_) rfl (by kernel_rfl) (by kernel_rfl) (by kernel_rfl) (fun _ _ _ h => h) (Or.inl ⟨by rfl, ?_⟩) (by assumption) ?_
        rotate_left
        · (intro wz hSw; (try dsimp only at hSw); go_simp; try with_reducible rfl)
        simp only [Act.put, List.getElem_toArray, List.getElem_cons_zero, List.getElem_cons_succ, List.setIfInBounds_toArray, List.set_cons_zero, List.set_cons_succ]
        refine wpAnyH_take (i := 4) (v := ?_) rfl (by kernel_rfl) (by kernel_rfl) (by kernel_rfl) (fun _ _ _ h => h) (Or.inl ⟨by rfl, ?_⟩) (by assumption) ?_
        rotate_left
        · (intro wz hSw; (try dsimp only at hSw); go_simp; try with_reducible rfl)
        simp only [Act.put, List.getElem_toArray, List.getElem_cons_zero, List.getElem_cons_succ, List.setIfInBounds_toArray, List.set_cons_zero, List.set_cons_succ]
        refine wpAnyH_take (i := 5) (v := ?_) rfl (by kernel_rfl) (by kernel_rfl) (by kernel_rfl) (fun _ _ _ h => h) (Or.inl ⟨by rfl, ?_⟩) (by assumption) ?_
        rotate_left
        · (intro wz hSw; (try dsimp only at hSw); go_simp; try with_reducible rfl)
        simp only [Act.put, List.getElem_toArray, List.getElem_cons_zero, List.getElem_cons_succ, List.setIfInBounds_toArray, List.set_cons_zero, List.set_cons_succ]
        refine wpAnyH_take (i := 7) (v := ?_) rfl (by kernel_rfl) (by kernel_rfl) (by kernel_rfl) (fun _ _ _ h => h) (Or.inl ⟨by rfl, ?_⟩) (by assumption) ?_
        rotate_left
        · (intro wz hSw; (try dsimp only at hSw); go_simp; try with_reducible rfl)
        simp only [Act.put, List.getElem_toArray, List.getElem_cons_zero, List.getElem_cons_succ, List.setIfInBounds_toArray, List.set_cons_zero, List.set_cons_succ]
        refine wpAnyH_take (i := 8) (v := ?_) rfl (by kernel_rfl) (by kernel_rfl) (by kernel_rfl) (fun _ _ _ h => h) (Or.inl ⟨by rfl, ?_⟩) (by assumption) ?_
        rotate_left
        · (intro wz hSw; (try dsimp only at hSw); go_simp; try with_reducible rfl)
        simp only [Act.put, List.getElem_toArray, List.getElem_cons_zero, List.getElem_cons_succ, List.setIfInBounds_toArray, List.set_cons_zero, List.set_cons_succ]
        refine wpAnyH_ready (rs := [6]) (by kernel_rfl) (by simp) ?_
        refine AllReadyH.cons rfl (fun K hK => ?_) ?_
        · obtain ⟨hx0, hx1⟩ := h.ans_c t ht
          rw [HDT.out] at hx0 hx1
          simp only at hx0 hx1
          go_simp
          clear hx0 hx1
          refine hK.out _ _ ⟨ma6_0, ma6_1, ma6_2, ma6_3, ma6_4, ma6_5⟩ (fun hHeld => ?_)
          clear hK K
          try simp only [Act.put, List.getElem_toArray, List.getElem_cons_zero, List.getElem_cons_succ, List.setIfInBounds_toArray, List.set_cons_zero, List.set_cons_succ]
          refine wpAnyH_take (i := 9) (v := ?_) rfl (by kernel_rfl) (by kernel_rfl) (by kernel_rfl) (fun _ _ _ h => h) (Or.inl ⟨by rfl, ?_⟩) (by assumption) ?_
          rotate_left
          · (intro wz hSw; (try dsimp only at hSw); go_simp; try with_reducible rfl)
          simp only [Act.put, List.getElem_toArray, List.getElem_cons_zero, List.getElem_cons_succ, List.setIfInBounds_toArray, List.set_cons_zero, List.set_cons_succ]
          refine wpAnyH_done (by kernel_rfl) ?_ _
          refine NoPanic.normal ?_
          go_upto_region 6 with fail
          have z7 := frzRow rx 3
          replace ra := rowSet ra ⟨w4.heap.size, 3, none⟩ (.int .i64 m) (by show _ ≠ w4.heap.size; omega)
          replace rr := rowSet rr ⟨w4.heap.size, 3, none⟩ (.int .i64 m) (by show _ ≠ w4.heap.size; omega)
          replace rx : (u6.setCell ⟨w4.heap.size, 3, none⟩ (.int .i64 m)).heap[w4.heap.size]? = some (.cells #[.slice A2 d.length c2, .int .i64 ps, .bool pp, .int .i64 m, .bool ph, .int .i64 pd] 24 (0, 0)) := by rw [heap_setCell_same _ _ 3 _ _ _ rx]; rfl
          replace o2 := o2.setOther ⟨w4.heap.size, 3, none⟩ (.int .i64 m) (by show w4.heap.size < _ ∨ _ ≤ w4.heap.size; omega)
          replace h := h.setOther ⟨w4.heap.size, 3, none⟩ (.int .i64 m) (by show _ ≤ w4.heap.size; omega)
          replace hB := hB.setCell (p := ⟨w4.heap.size, 3, none⟩) (by show _ ≤ w4.heap.size; omega) (.int .i64 m)
          have s7 : u6.heap.size ≤ (u6.setCell ⟨w4.heap.size, 3, none⟩ (.int .i64 m)).heap.size := Nat.le_of_eq (World.size_setCell _ _ _).symm
          have ma7_0 : (u6.setCell ⟨w4.heap.size, 3, none⟩ (.int .i64 m)).cell? ⟨w.heap.size, 0, none⟩ = some (.slice (some ⟨b, o, none⟩) d.length c) := cell_of_row _ _ 0 _ _ _ ra
          have ma7_1 : (u6.setCell ⟨w4.heap.size, 3, none⟩ (.int .i64 m)).cell? ⟨w.heap.size, 1, none⟩ = some (.int .i64 ps) := cell_of_row _ _ 1 _ _ _ ra
          have ma7_2 : (u6.setCell ⟨w4.heap.size, 3, none⟩ (.int .i64 m)).cell? ⟨w.heap.size, 2, none⟩ = some (.bool pp) := cell_of_row _ _ 2 _ _ _ ra
          have ma7_3 : (u6.setCell ⟨w4.heap.size, 3, none⟩ (.int .i64 m)).cell? ⟨w.heap.size, 3, none⟩ = some (.int .i64 (t : Int)) := cell_of_row _ _ 3 _ _ _ ra
          have ma7_4 : (u6.setCell ⟨w4.heap.size, 3, none⟩ (.int .i64 m)).cell? ⟨w.heap.size, 4, none⟩ = some (.bool ph) := cell_of_row _ _ 4 _ _ _ ra
          have ma7_5 : (u6.setCell ⟨w4.heap.size, 3, none⟩ (.int .i64 m)).cell? ⟨w.heap.size, 5, none⟩ = some (.int .i64 pd) := cell_of_row _ _ 5 _ _ _ ra
          have mr6_0 : (u6.setCell ⟨w4.heap.size, 3, none⟩ (.int .i64 m)).cell? ⟨w.heap.size + 1, 0, none⟩ = some (.slice none 0 0) := cell_of_row _ _ 0 _ _ _ rr
          have mr6_1 : (u6.setCell ⟨w4.heap.size, 3, none⟩ (.int .i64 m)).cell? ⟨w.heap.size + 1, 1, none⟩ = some (.int .i64 0) := cell_of_row _ _ 1 _ _ _ rr
          have mr6_2 : (u6.setCell ⟨w4.heap.size, 3, none⟩ (.int .i64 m)).cell? ⟨w.heap.size + 1, 2, none⟩ = some (.bool false) := cell_of_row _ _ 2 _ _ _ rr
          have mr6_3 : (u6.setCell ⟨w4.heap.size, 3, none⟩ (.int .i64 m)).cell? ⟨w.heap.size + 1, 3, none⟩ = some (.int .i64 0) := cell_of_row _ _ 3 _ _ _ rr
          have mr6_4 : (u6.setCell ⟨w4.heap.size, 3, none⟩ (.int .i64 m)).cell? ⟨w.heap.size + 1, 4, none⟩ = some (.bool false) := cell_of_row _ _ 4 _ _ _ rr
          have mr6_5 : (u6.setCell ⟨w4.heap.size, 3, none⟩ (.int .i64 m)).cell? ⟨w.heap.size + 1, 5, none⟩ = some (.int .i64 0) := cell_of_row _ _ 5 _ _ _ rr
          have mx3_0 : (u6.setCell ⟨w4.heap.size, 3, none⟩ (.int .i64 m)).cell? ⟨w4.heap.size, 0, none⟩ = some (.slice A2 d.length c2) := cell_of_row _ _ 0 _ _ _ rx
          have mx3_1 : (u6.setCell ⟨w4.heap.size, 3, none⟩ (.int .i64 m)).cell? ⟨w4.heap.size, 1, none⟩ = some (.int .i64 ps) := cell_of_row _ _ 1 _ _ _ rx
          have mx3_2 : (u6.setCell ⟨w4.heap.size, 3, none⟩ (.int .i64 m)).cell? ⟨w4.heap.size, 2, none⟩ = some (.bool pp) := cell_of_row _ _ 2 _ _ _ rx
          have mx3_3 : (u6.setCell ⟨w4.heap.size, 3, none⟩ (.int .i64 m)).cell? ⟨w4.heap.size, 3, none⟩ = some (.int .i64 m) := cell_of_row _ _ 3 _ _ _ rx
          have mx3_4 : (u6.setCell ⟨w4.heap.size, 3, none⟩ (.int .i64 m)).cell? ⟨w4.heap.size, 4, none⟩ = some (.bool ph) := cell_of_row _ _ 4 _ _ _ rx
          have mx3_5 : (u6.setCell ⟨w4.heap.size, 3, none⟩ (.int .i64 m)).cell? ⟨w4.heap.size, 5, none⟩ = some (.int .i64 pd) := cell_of_row _ _ 5 _ _ _ rx
          go_upto_region 7 with fail
          clear z7 ma6_0 ma6_1 ma6_2 ma6_3 ma6_4 ma6_5 mr5_0 mr5_1 mr5_2 mr5_3 mr5_4 mr5_5 mx2_0 mx2_1 mx2_2 mx2_3 mx2_4 mx2_5
          generalize (u6.setCell ⟨w4.heap.size, 3, none⟩ (.int .i64 m)) = u7 at *
          go_upto_region 9 with fail
          have z8 := frzRow rx 5
          replace ra := rowSet ra ⟨w4.heap.size, 5, none⟩ (.int .i64 (pd - 1)) (by show _ ≠ w4.heap.size; omega)
          replace rr := rowSet rr ⟨w4.heap.size, 5, none⟩ (.int .i64 (pd - 1)) (by show _ ≠ w4.heap.size; omega)
          replace rx : (u7.setCell ⟨w4.heap.size, 5, none⟩ (.int .i64 (pd - 1))).heap[w4.heap.size]? = some (.cells #[.slice A2 d.length c2, .int .i64 ps, .bool pp, .int .i64 m, .bool ph, .int .i64 (pd - 1)] 24 (0, 0)) := by rw [heap_setCell_same _ _ 5 _ _ _ rx]; rfl
          replace o2 := o2.setOther ⟨w4.heap.size, 5, none⟩ (.int .i64 (pd - 1)) (by show w4.heap.size < _ ∨ _ ≤ w4.heap.size; omega)
          replace h := h.setOther ⟨w4.heap.size, 5, none⟩ (.int .i64 (pd - 1)) (by show _ ≤ w4.heap.size; omega)
          replace hB := hB.setCell (p := ⟨w4.heap.size, 5, none⟩) (by show _ ≤ w4.heap.size; omega) (.int .i64 (pd - 1))
          have s8 : u7.heap.size ≤ (u7.setCell ⟨w4.heap.size, 5, none⟩ (.int .i64 (pd - 1))).heap.size := Nat.le_of_eq (World.size_setCell _ _ _).symm
          have ma8_0 : (u7.setCell ⟨w4.heap.size, 5, none⟩ (.int .i64 (pd - 1))).cell? ⟨w.heap.size, 0, none⟩ = some (.slice (some ⟨b, o, none⟩) d.length c) := cell_of_row _ _ 0 _ _ _ ra
          have ma8_1 : (u7.setCell ⟨w4.heap.size, 5, none⟩ (.int .i64 (pd - 1))).cell? ⟨w.heap.size, 1, none⟩ = some (.int .i64 ps) := cell_of_row _ _ 1 _ _ _ ra
          have ma8_2 : (u7.setCell ⟨w4.heap.size, 5, none⟩ (.int .i64 (pd - 1))).cell? ⟨w.heap.size, 2, none⟩ = some (.bool pp) := cell_of_row _ _ 2 _ _ _ ra
          have ma8_3 : (u7.setCell ⟨w4.heap.size, 5, none⟩ (.int .i64 (pd - 1))).cell? ⟨w.heap.size, 3, none⟩ = some (.int .i64 (t : Int)) := cell_of_row _ _ 3 _ _ _ ra
          have ma8_4 : (u7.setCell ⟨w4.heap.size, 5, none⟩ (.int .i64 (pd - 1))).cell? ⟨w.heap.size, 4, none⟩ = some (.bool ph) := cell_of_row _ _ 4 _ _ _ ra
          have ma8_5 : (u7.setCell ⟨w4.heap.size, 5, none⟩ (.int .i64 (pd - 1))).cell? ⟨w.heap.size, 5, none⟩ = some (.int .i64 pd) := cell_of_row _ _ 5 _ _ _ ra
          have mr7_0 : (u7.setCell ⟨w4.heap.size, 5, none⟩ (.int .i64 (pd - 1))).cell? ⟨w.heap.size + 1, 0, none⟩ = some (.slice none 0 0) := cell_of_row _ _ 0 _ _ _ rr
          have mr7_1 : (u7.setCell ⟨w4.heap.size, 5, none⟩ (.int .i64 (pd - 1))).cell? ⟨w.heap.size + 1, 1, none⟩ = some (.int .i64 0) := cell_of_row _ _ 1 _ _ _ rr
          have mr7_2 : (u7.setCell ⟨w4.heap.size, 5, none⟩ (.int .i64 (pd - 1))).cell? ⟨w.heap.size + 1, 2, none⟩ = some (.bool false) := cell_of_row _ _ 2 _ _ _ rr
          have mr7_3 : (u7.setCell ⟨w4.heap.size, 5, none⟩ (.int .i64 (pd - 1))).cell? ⟨w.heap.size + 1, 3, none⟩ = some (.int .i64 0) := cell_of_row _ _ 3 _ _ _ rr
          have mr7_4 : (u7.setCell ⟨w4.heap.size, 5, none⟩ (.int .i64 (pd - 1))).cell? ⟨w.heap.size + 1, 4, none⟩ = some (.bool false) := cell_of_row _ _ 4 _ _ _ rr
          have mr7_5 : (u7.setCell ⟨w4.heap.size, 5, none⟩ (.int .i64 (pd - 1))).cell? ⟨w.heap.size + 1, 5, none⟩ = some (.int .i64 0) := cell_of_row _ _ 5 _ _ _ rr
          have mx4_0 : (u7.setCell ⟨w4.heap.size, 5, none⟩ (.int .i64 (pd - 1))).cell? ⟨w4.heap.size, 0, none⟩ = some (.slice A2 d.length c2) := cell_of_row _ _ 0 _ _ _ rx
          have mx4_1 : (u7.setCell ⟨w4.heap.size, 5, none⟩ (.int .i64 (pd - 1))).cell? ⟨w4.heap.size, 1, none⟩ = some (.int .i64 ps) := cell_of_row _ _ 1 _ _ _ rx
          have mx4_2 : (u7.setCell ⟨w4.heap.size, 5, none⟩ (.int .i64 (pd - 1))).cell? ⟨w4.heap.size, 2, none⟩ = some (.bool pp) := cell_of_row _ _ 2 _ _ _ rx
          have mx4_3 : (u7.setCell ⟨w4.heap.size, 5, none⟩ (.int .i64 (pd - 1))).cell? ⟨w4.heap.size, 3, none⟩ = some (.int .i64 m) := cell_of_row _ _ 3 _ _ _ rx
          have mx4_4 : (u7.setCell ⟨w4.heap.size, 5, none⟩ (.int .i64 (pd - 1))).cell? ⟨w4.heap.size, 4, none⟩ = some (.bool ph) := cell_of_row _ _ 4 _ _ _ rx
          have mx4_5 : (u7.setCell ⟨w4.heap.size, 5, none⟩ (.int .i64 (pd - 1))).cell? ⟨w4.heap.size, 5, none⟩ = some (.int .i64 (pd - 1)) := cell_of_row _ _ 5 _ _ _ rx
          go_upto_region 10 with fail
          clear z8 ma7_0 ma7_1 ma7_2 ma7_3 ma7_4 ma7_5 mr6_0 mr6_1 mr6_2 mr6_3 mr6_4 mr6_5 mx3_0 mx3_1 mx3_2 mx3_3 mx3_4 mx3_5
          generalize (u7.setCell ⟨w4.heap.size, 5, none⟩ (.int .i64 (pd - 1))) = u8 at *
          have hn9 : Below u8.heap.size u8 u8.drew := below_drewN (Below.refl _ _) 1
          have s9 : u8.heap.size ≤ u8.drew.heap.size := Nat.le_refl _
          clear ma8_0 ma8_1 ma8_2 ma8_3 ma8_4 ma8_5
          clear mr7_0 mr7_1 mr7_2 mr7_3 mr7_4 mr7_5
          clear mx4_0 mx4_1 mx4_2 mx4_3 mx4_4 mx4_5
          replace ra := rowKeep ra hn9
          replace rr := rowKeep rr hn9
          replace rx := rowKeep rx hn9
          replace o2 := o2.below hn9
          replace h := h.below hn9 (by omega)
          replace hB := below_later hB hn9 (by omega)
          have ma9_0 : u8.drew.cell? ⟨w.heap.size, 0, none⟩ = some (.slice (some ⟨b, o, none⟩) d.length c) := cell_of_row _ _ 0 _ _ _ ra
          have ma9_1 : u8.drew.cell? ⟨w.heap.size, 1, none⟩ = some (.int .i64 ps) := cell_of_row _ _ 1 _ _ _ ra
          have ma9_2 : u8.drew.cell? ⟨w.heap.size, 2, none⟩ = some (.bool pp) := cell_of_row _ _ 2 _ _ _ ra
          have ma9_3 : u8.drew.cell? ⟨w.heap.size, 3, none⟩ = some (.int .i64 (t : Int)) := cell_of_row _ _ 3 _ _ _ ra
          have ma9_4 : u8.drew.cell? ⟨w.heap.size, 4, none⟩ = some (.bool ph) := cell_of_row _ _ 4 _ _ _ ra
          have ma9_5 : u8.drew.cell? ⟨w.heap.size, 5, none⟩ = some (.int .i64 pd) := cell_of_row _ _ 5 _ _ _ ra
          have mr8_0 : u8.drew.cell? ⟨w.heap.size + 1, 0, none⟩ = some (.slice none 0 0) := cell_of_row _ _ 0 _ _ _ rr
          have mr8_1 : u8.drew.cell? ⟨w.heap.size + 1, 1, none⟩ = some (.int .i64 0) := cell_of_row _ _ 1 _ _ _ rr
          have mr8_2 : u8.drew.cell? ⟨w.heap.size + 1, 2, none⟩ = some (.bool false) := cell_of_row _ _ 2 _ _ _ rr
          have mr8_3 : u8.drew.cell? ⟨w.heap.size + 1, 3, none⟩ = some (.int .i64 0) := cell_of_row _ _ 3 _ _ _ rr
          have mr8_4 : u8.drew.cell? ⟨w.heap.size + 1, 4, none⟩ = some (.bool false) := cell_of_row _ _ 4 _ _ _ rr
          have mr8_5 : u8.drew.cell? ⟨w.heap.size + 1, 5, none⟩ = some (.int .i64 0) := cell_of_row _ _ 5 _ _ _ rr
          have mx5_0 : u8.drew.cell? ⟨w4.heap.size, 0, none⟩ = some (.slice A2 d.length c2) := cell_of_row _ _ 0 _ _ _ rx
          have mx5_1 : u8.drew.cell? ⟨w4.heap.size, 1, none⟩ = some (.int .i64 ps) := cell_of_row _ _ 1 _ _ _ rx
          have mx5_2 : u8.drew.cell? ⟨w4.heap.size, 2, none⟩ = some (.bool pp) := cell_of_row _ _ 2 _ _ _ rx
          have mx5_3 : u8.drew.cell? ⟨w4.heap.size, 3, none⟩ = some (.int .i64 m) := cell_of_row _ _ 3 _ _ _ rx
          have mx5_4 : u8.drew.cell? ⟨w4.heap.size, 4, none⟩ = some (.bool ph) := cell_of_row _ _ 4 _ _ _ rx
          have mx5_5 : u8.drew.cell? ⟨w4.heap.size, 5, none⟩ = some (.int .i64 (pd - 1)) := cell_of_row _ _ 5 _ _ _ rx
          clear hn9
          refine wp_region_noPanic ?_
          refine wp_region_held_drew (S := fun w' => w'.cell? ⟨w.heap.size, 0, none⟩ = some (.slice (some ⟨b, o, none⟩) d.length c) ∧ w'.cell? ⟨w.heap.size, 1, none⟩ = some (.int .i64 ps) ∧ w'.cell? ⟨w.heap.size, 2, none⟩ = some (.bool pp) ∧ w'.cell? ⟨w.heap.size, 3, none⟩ = some (.int .i64 (t : Int)) ∧ w'.cell? ⟨w.heap.size, 4, none⟩ = some (.bool ph) ∧ w'.cell? ⟨w.heap.size, 5, none⟩ = some (.int .i64 pd) ∧ w'.cell? ⟨w4.heap.size, 0, none⟩ = some (.slice A2 d.length c2) ∧ w'.cell? ⟨w4.heap.size, 1, none⟩ = some (.int .i64 ps) ∧ w'.cell? ⟨w4.heap.size, 2, none⟩ = some (.bool pp) ∧ w'.cell? ⟨w4.heap.size, 3, none⟩ = some (.int .i64 m) ∧ w'.cell? ⟨w4.heap.size, 4, none⟩ = some (.bool ph) ∧ w'.cell? ⟨w4.heap.size, 5, none⟩ = some (.int .i64 (pd - 1))) (by kernel_rfl) ⟨ma9_0, ma9_1, ma9_2, ma9_3, ma9_4, ma9_5, mx5_0, mx5_1, mx5_2, mx5_3, mx5_4, mx5_5⟩ (fun hHeld => ?_)
          generalize u8.drew = u9 at *
          refine wpAnyH_take (i := 0) (v := ?_) rfl (by kernel_rfl) (by kernel_rfl) (by kernel_rfl) (fun _ _ _ h => h) (Or.inl ⟨by rfl, ?_⟩) (by assumption) ?_
          rotate_left
          · (intro wz hSw; (try dsimp only at hSw); go_simp; try with_reducible rfl)
          simp only [Act.put, List.getElem_toArray, List.getElem_cons_zero, List.getElem_cons_succ, List.setIfInBounds_toArray, List.set_cons_zero, List.set_cons_succ]
          refine wpAnyH_take (i := 1) (v := ?_) rfl (by kernel_rfl) (by kernel_rfl) (by kernel_rfl) (fun _ _ _ h => h) (Or.inl ⟨by rfl, ?_⟩) (by assumption) ?_
          rotate_left
          · (intro wz hSw; (try dsimp only at hSw); go_simp; try with_reducible rfl)
          simp only [Act.put, List.getElem_toArray, List.getElem_cons_zero, List.getElem_cons_succ, List.setIfInBounds_toArray, List.set_cons_zero, List.set_cons_succ]
          refine wpAnyH_take (i := 2) (v := ?_) rfl (by kernel_rfl) (by kernel_rfl) (by kernel_rfl) (fun _ _ _ h => h) (Or.inl ⟨by rfl, ?_⟩) (by assumption) ?_
          rotate_left
          · (intro wz hSw; (try dsimp only at hSw); go_simp; try with_reducible rfl)
          simp only [Act.put, List.getElem_toArray, List.getElem_cons_zero, List.getElem_cons_succ, List.setIfInBounds_toArray, List.set_cons_zero, List.set_cons_succ]
          refine wpAnyH_take (i := 3) (v := ?_) rfl (by kernel_rfl) (by kernel_rfl) (by kernel_rfl) (fun _ _ _ h => h) (Or.inl ⟨by rfl, ?_⟩) (by assumption) ?_
          rotate_left
          · (intro wz hSw; (try dsimp only at hSw); go_simp; try with_reducible rfl)
          simp only [Act.put, List.getElem_toArray, List.getElem_cons_zero, List.getElem_cons_succ, List.setIfInBounds_toArray, List.set_cons_zero, List.set_cons_succ]
          refine wpAnyH_take (i := 4) (v := ?_) rfl (by kernel_rfl) (by kernel_rfl) (by kernel_rfl) (fun _ _ _ h => h) (Or.inl ⟨by rfl, ?_⟩) (by assumption) ?_
          rotate_left
          · (intro wz hSw; (try dsimp only at hSw); go_simp; try with_reducible rfl)
          simp only [Act.put, List.getElem_toArray, List.getElem_cons_zero, List.getElem_cons_succ, List.setIfInBounds_toArray, List.set_cons_zero, List.set_cons_succ]
          refine wpAnyH_take (i := 5) (v := ?_) rfl (by kernel_rfl) (by kernel_rfl) (by kernel_rfl) (fun _ _ _ h => h) (Or.inl ⟨by rfl, ?_⟩) (by assumption) ?_
          rotate_left
          · (intro wz hSw; (try dsimp only at hSw); go_simp; try with_reducible rfl)
          simp only [Act.put, List.getElem_toArray, List.getElem_cons_zero, List.getElem_cons_succ, List.setIfInBounds_toArray, List.set_cons_zero, List.set_cons_succ]
          refine wpAnyH_take (i := 6) (v := ?_) rfl (by kernel_rfl) (by kernel_rfl) (by kernel_rfl) (fun _ _ _ h => h) (Or.inl ⟨by rfl, ?_⟩) (by assumption) ?_
          rotate_left
          · (intro wz hSw; (try dsimp only at hSw); go_simp; try with_reducible rfl)
          simp only [Act.put, List.getElem_toArray, List.getElem_cons_zero, List.getElem_cons_succ, List.setIfInBounds_toArray, List.set_cons_zero, List.set_cons_succ]
          refine wpAnyH_ready (rs := [7, 8]) (by kernel_rfl) (by simp) ?_
          refine AllReadyH.cons rfl (fun K hK => ?_) ?_
          · obtain ⟨hx0, hx1⟩ := h.ans_c t ht
            rw [HDT.out] at hx0 hx1
            simp only at hx0 hx1
            go_simp
            clear hx0 hx1
            refine hK.out _ _ ⟨ma9_0, ma9_1, ma9_2, ma9_3, ma9_4, ma9_5, mx5_0, mx5_1, mx5_2, mx5_3, mx5_4, mx5_5⟩ (fun hHeld => ?_)
            clear hK K
            try simp only [Act.put, List.getElem_toArray, List.getElem_cons_zero, List.getElem_cons_succ, List.setIfInBounds_toArray, List.set_cons_zero, List.set_cons_succ]
            refine wpAnyH_ready (rs := [8]) (by kernel_rfl) (by simp) ?_
            refine AllReadyH.cons rfl (fun K hK => ?_) ?_
            · have z10_0 := frzRow rr 0
              have z10_1 := frzRow rr 1
              have z10_2 := frzRow rr 2
              have z10_3 := frzRow rr 3
              have z10_4 := frzRow rr 4
              have z10_5 := frzRow rr 5
              replace ra := rowSet (rowSet (rowSet (rowSet (rowSet (rowSet (ra) ⟨w.heap.size + 1, 0, none⟩ (.slice A2 d.length c2) (by show _ ≠ w.heap.size + 1; omega)) ⟨w.heap.size + 1, 1, none⟩ (.int .i64 ps) (by show _ ≠ w.heap.size + 1; omega)) ⟨w.heap.size + 1, 2, none⟩ (.bool pp) (by show _ ≠ w.heap.size + 1; omega)) ⟨w.heap.size + 1, 3, none⟩ (.int .i64 m) (by show _ ≠ w.heap.size + 1; omega)) ⟨w.heap.size + 1, 4, none⟩ (.bool ph) (by show _ ≠ w.heap.size + 1; omega)) ⟨w.heap.size + 1, 5, none⟩ (.int .i64 (pd - 1)) (by show _ ≠ w.heap.size + 1; omega)
              replace rx := rowSet (rowSet (rowSet (rowSet (rowSet (rowSet (rx) ⟨w.heap.size + 1, 0, none⟩ (.slice A2 d.length c2) (by show _ ≠ w.heap.size + 1; omega)) ⟨w.heap.size + 1, 1, none⟩ (.int .i64 ps) (by show _ ≠ w.heap.size + 1; omega)) ⟨w.heap.size + 1, 2, none⟩ (.bool pp) (by show _ ≠ w.heap.size + 1; omega)) ⟨w.heap.size + 1, 3, none⟩ (.int .i64 m) (by show _ ≠ w.heap.size + 1; omega)) ⟨w.heap.size + 1, 4, none⟩ (.bool ph) (by show _ ≠ w.heap.size + 1; omega)) ⟨w.heap.size + 1, 5, none⟩ (.int .i64 (pd - 1)) (by show _ ≠ w.heap.size + 1; omega)
              replace rr := put5 (put4 (put3 (put2 (put1 (put0 (rr) (.slice A2 d.length c2)) (.int .i64 ps)) (.bool pp)) (.int .i64 m)) (.bool ph)) (.int .i64 (pd - 1))
              replace o2 := ((((((o2).setOther ⟨w.heap.size + 1, 0, none⟩ (.slice A2 d.length c2) (by show w.heap.size + 1 < _ ∨ _ ≤ w.heap.size + 1; omega)).setOther ⟨w.heap.size + 1, 1, none⟩ (.int .i64 ps) (by show w.heap.size + 1 < _ ∨ _ ≤ w.heap.size + 1; omega)).setOther ⟨w.heap.size + 1, 2, none⟩ (.bool pp) (by show w.heap.size + 1 < _ ∨ _ ≤ w.heap.size + 1; omega)).setOther ⟨w.heap.size + 1, 3, none⟩ (.int .i64 m) (by show w.heap.size + 1 < _ ∨ _ ≤ w.heap.size + 1; omega)).setOther ⟨w.heap.size + 1, 4, none⟩ (.bool ph) (by show w.heap.size + 1 < _ ∨ _ ≤ w.heap.size + 1; omega)).setOther ⟨w.heap.size + 1, 5, none⟩ (.int .i64 (pd - 1)) (by show w.heap.size + 1 < _ ∨ _ ≤ w.heap.size + 1; omega)
              replace h := ((((((h).setOther ⟨w.heap.size + 1, 0, none⟩ (.slice A2 d.length c2) (by show _ ≤ w.heap.size + 1; omega)).setOther ⟨w.heap.size + 1, 1, none⟩ (.int .i64 ps) (by show _ ≤ w.heap.size + 1; omega)).setOther ⟨w.heap.size + 1, 2, none⟩ (.bool pp) (by show _ ≤ w.heap.size + 1; omega)).setOther ⟨w.heap.size + 1, 3, none⟩ (.int .i64 m) (by show _ ≤ w.heap.size + 1; omega)).setOther ⟨w.heap.size + 1, 4, none⟩ (.bool ph) (by show _ ≤ w.heap.size + 1; omega)).setOther ⟨w.heap.size + 1, 5, none⟩ (.int .i64 (pd - 1)) (by show _ ≤ w.heap.size + 1; omega)
              replace hB := ((((((hB).setCell (p := ⟨w.heap.size + 1, 0, none⟩) (by show _ ≤ w.heap.size + 1; omega) (.slice A2 d.length c2)).setCell (p := ⟨w.heap.size + 1, 1, none⟩) (by show _ ≤ w.heap.size + 1; omega) (.int .i64 ps)).setCell (p := ⟨w.heap.size + 1, 2, none⟩) (by show _ ≤ w.heap.size + 1; omega) (.bool pp)).setCell (p := ⟨w.heap.size + 1, 3, none⟩) (by show _ ≤ w.heap.size + 1; omega) (.int .i64 m)).setCell (p := ⟨w.heap.size + 1, 4, none⟩) (by show _ ≤ w.heap.size + 1; omega) (.bool ph)).setCell (p := ⟨w.heap.size + 1, 5, none⟩) (by show _ ≤ w.heap.size + 1; omega) (.int .i64 (pd - 1))
              have s10 : u9.heap.size ≤ ((((((u9.setCell ⟨w.heap.size + 1, 0, none⟩ (.slice A2 d.length c2)).setCell ⟨w.heap.size + 1, 1, none⟩ (.int .i64 ps)).setCell ⟨w.heap.size + 1, 2, none⟩ (.bool pp)).setCell ⟨w.heap.size + 1, 3, none⟩ (.int .i64 m)).setCell ⟨w.heap.size + 1, 4, none⟩ (.bool ph)).setCell ⟨w.heap.size + 1, 5, none⟩ (.int .i64 (pd - 1))).heap.size := by simp only [World.size_setCell]; exact Nat.le_refl _
              have ma10_0 : ((((((u9.setCell ⟨w.heap.size + 1, 0, none⟩ (.slice A2 d.length c2)).setCell ⟨w.heap.size + 1, 1, none⟩ (.int .i64 ps)).setCell ⟨w.heap.size + 1, 2, none⟩ (.bool pp)).setCell ⟨w.heap.size + 1, 3, none⟩ (.int .i64 m)).setCell ⟨w.heap.size + 1, 4, none⟩ (.bool ph)).setCell ⟨w.heap.size + 1, 5, none⟩ (.int .i64 (pd - 1))).cell? ⟨w.heap.size, 0, none⟩ = some (.slice (some ⟨b, o, none⟩) d.length c) := cell_of_row _ _ 0 _ _ _ ra
              have ma10_1 : ((((((u9.setCell ⟨w.heap.size + 1, 0, none⟩ (.slice A2 d.length c2)).setCell ⟨w.heap.size + 1, 1, none⟩ (.int .i64 ps)).setCell ⟨w.heap.size + 1, 2, none⟩ (.bool pp)).setCell ⟨w.heap.size + 1, 3, none⟩ (.int .i64 m)).setCell ⟨w.heap.size + 1, 4, none⟩ (.bool ph)).setCell ⟨w.heap.size + 1, 5, none⟩ (.int .i64 (pd - 1))).cell? ⟨w.heap.size, 1, none⟩ = some (.int .i64 ps) := cell_of_row _ _ 1 _ _ _ ra
              have ma10_2 : ((((((u9.setCell ⟨w.heap.size + 1, 0, none⟩ (.slice A2 d.length c2)).setCell ⟨w.heap.size + 1, 1, none⟩ (.int .i64 ps)).setCell ⟨w.heap.size + 1, 2, none⟩ (.bool pp)).setCell ⟨w.heap.size + 1, 3, none⟩ (.int .i64 m)).setCell ⟨w.heap.size + 1, 4, none⟩ (.bool ph)).setCell ⟨w.heap.size + 1, 5, none⟩ (.int .i64 (pd - 1))).cell? ⟨w.heap.size, 2, none⟩ = some (.bool pp) := cell_of_row _ _ 2 _ _ _ ra
              have ma10_3 : ((((((u9.setCell ⟨w.heap.size + 1, 0, none⟩ (.slice A2 d.length c2)).setCell ⟨w.heap.size + 1, 1, none⟩ (.int .i64 ps)).setCell ⟨w.heap.size + 1, 2, none⟩ (.bool pp)).setCell ⟨w.heap.size + 1, 3, none⟩ (.int .i64 m)).setCell ⟨w.heap.size + 1, 4, none⟩ (.bool ph)).setCell ⟨w.heap.size + 1, 5, none⟩ (.int .i64 (pd - 1))).cell? ⟨w.heap.size, 3, none⟩ = some (.int .i64 (t : Int)) := cell_of_row _ _ 3 _ _ _ ra
              have ma10_4 : ((((((u9.setCell ⟨w.heap.size + 1, 0, none⟩ (.slice A2 d.length c2)).setCell ⟨w.heap.size + 1, 1, none⟩ (.int .i64 ps)).setCell ⟨w.heap.size + 1, 2, none⟩ (.bool pp)).setCell ⟨w.heap.size + 1, 3, none⟩ (.int .i64 m)).setCell ⟨w.heap.size + 1, 4, none⟩ (.bool ph)).setCell ⟨w.heap.size + 1, 5, none⟩ (.int .i64 (pd - 1))).cell? ⟨w.heap.size, 4, none⟩ = some (.bool ph) := cell_of_row _ _ 4 _ _ _ ra
              have ma10_5 : ((((((u9.setCell ⟨w.heap.size + 1, 0, none⟩ (.slice A2 d.length c2)).setCell ⟨w.heap.size + 1, 1, none⟩ (.int .i64 ps)).setCell ⟨w.heap.size + 1, 2, none⟩ (.bool pp)).setCell ⟨w.heap.size + 1, 3, none⟩ (.int .i64 m)).setCell ⟨w.heap.size + 1, 4, none⟩ (.bool ph)).setCell ⟨w.heap.size + 1, 5, none⟩ (.int .i64 (pd - 1))).cell? ⟨w.heap.size, 5, none⟩ = some (.int .i64 pd) := cell_of_row _ _ 5 _ _ _ ra
              have mr9_0 : ((((((u9.setCell ⟨w.heap.size + 1, 0, none⟩ (.slice A2 d.length c2)).setCell ⟨w.heap.size + 1, 1, none⟩ (.int .i64 ps)).setCell ⟨w.heap.size + 1, 2, none⟩ (.bool pp)).setCell ⟨w.heap.size + 1, 3, none⟩ (.int .i64 m)).setCell ⟨w.heap.size + 1, 4, none⟩ (.bool ph)).setCell ⟨w.heap.size + 1, 5, none⟩ (.int .i64 (pd - 1))).cell? ⟨w.heap.size + 1, 0, none⟩ = some (.slice A2 d.length c2) := cell_of_row _ _ 0 _ _ _ rr
              have mr9_1 : ((((((u9.setCell ⟨w.heap.size + 1, 0, none⟩ (.slice A2 d.length c2)).setCell ⟨w.heap.size + 1, 1, none⟩ (.int .i64 ps)).setCell ⟨w.heap.size + 1, 2, none⟩ (.bool pp)).setCell ⟨w.heap.size + 1, 3, none⟩ (.int .i64 m)).setCell ⟨w.heap.size + 1, 4, none⟩ (.bool ph)).setCell ⟨w.heap.size + 1, 5, none⟩ (.int .i64 (pd - 1))).cell? ⟨w.heap.size + 1, 1, none⟩ = some (.int .i64 ps) := cell_of_row _ _ 1 _ _ _ rr
              have mr9_2 : ((((((u9.setCell ⟨w.heap.size + 1, 0, none⟩ (.slice A2 d.length c2)).setCell ⟨w.heap.size + 1, 1, none⟩ (.int .i64 ps)).setCell ⟨w.heap.size + 1, 2, none⟩ (.bool pp)).setCell ⟨w.heap.size + 1, 3, none⟩ (.int .i64 m)).setCell ⟨w.heap.size + 1, 4, none⟩ (.bool ph)).setCell ⟨w.heap.size + 1, 5, none⟩ (.int .i64 (pd - 1))).cell? ⟨w.heap.size + 1, 2, none⟩ = some (.bool pp) := cell_of_row _ _ 2 _ _ _ rr
              have mr9_3 : ((((((u9.setCell ⟨w.heap.size + 1, 0, none⟩ (.slice A2 d.length c2)).setCell ⟨w.heap.size + 1, 1, none⟩ (.int .i64 ps)).setCell ⟨w.heap.size + 1, 2, none⟩ (.bool pp)).setCell ⟨w.heap.size + 1, 3, none⟩ (.int .i64 m)).setCell ⟨w.heap.size + 1, 4, none⟩ (.bool ph)).setCell ⟨w.heap.size + 1, 5, none⟩ (.int .i64 (pd - 1))).cell? ⟨w.heap.size + 1, 3, none⟩ = some (.int .i64 m) := cell_of_row _ _ 3 _ _ _ rr
              have mr9_4 : ((((((u9.setCell ⟨w.heap.size + 1, 0, none⟩ (.slice A2 d.length c2)).setCell ⟨w.heap.size + 1, 1, none⟩ (.int .i64 ps)).setCell ⟨w.heap.size + 1, 2, none⟩ (.bool pp)).setCell ⟨w.heap.size + 1, 3, none⟩ (.int .i64 m)).setCell ⟨w.heap.size + 1, 4, none⟩ (.bool ph)).setCell ⟨w.heap.size + 1, 5, none⟩ (.int .i64 (pd - 1))).cell? ⟨w.heap.size + 1, 4, none⟩ = some (.bool ph) := cell_of_row _ _ 4 _ _ _ rr
              have mr9_5 : ((((((u9.setCell ⟨w.heap.size + 1, 0, none⟩ (.slice A2 d.length c2)).setCell ⟨w.heap.size + 1, 1, none⟩ (.int .i64 ps)).setCell ⟨w.heap.size + 1, 2, none⟩ (.bool pp)).setCell ⟨w.heap.size + 1, 3, none⟩ (.int .i64 m)).setCell ⟨w.heap.size + 1, 4, none⟩ (.bool ph)).setCell ⟨w.heap.size + 1, 5, none⟩ (.int .i64 (pd - 1))).cell? ⟨w.heap.size + 1, 5, none⟩ = some (.int .i64 (pd - 1)) := cell_of_row _ _ 5 _ _ _ rr
              have mx6_0 : ((((((u9.setCell ⟨w.heap.size + 1, 0, none⟩ (.slice A2 d.length c2)).setCell ⟨w.heap.size + 1, 1, none⟩ (.int .i64 ps)).setCell ⟨w.heap.size + 1, 2, none⟩ (.bool pp)).setCell ⟨w.heap.size + 1, 3, none⟩ (.int .i64 m)).setCell ⟨w.heap.size + 1, 4, none⟩ (.bool ph)).setCell ⟨w.heap.size + 1, 5, none⟩ (.int .i64 (pd - 1))).cell? ⟨w4.heap.size, 0, none⟩ = some (.slice A2 d.length c2) := cell_of_row _ _ 0 _ _ _ rx
              have mx6_1 : ((((((u9.setCell ⟨w.heap.size + 1, 0, none⟩ (.slice A2 d.length c2)).setCell ⟨w.heap.size + 1, 1, none⟩ (.int .i64 ps)).setCell ⟨w.heap.size + 1, 2, none⟩ (.bool pp)).setCell ⟨w.heap.size + 1, 3, none⟩ (.int .i64 m)).setCell ⟨w.heap.size + 1, 4, none⟩ (.bool ph)).setCell ⟨w.heap.size + 1, 5, none⟩ (.int .i64 (pd - 1))).cell? ⟨w4.heap.size, 1, none⟩ = some (.int .i64 ps) := cell_of_row _ _ 1 _ _ _ rx
              have mx6_2 : ((((((u9.setCell ⟨w.heap.size + 1, 0, none⟩ (.slice A2 d.length c2)).setCell ⟨w.heap.size + 1, 1, none⟩ (.int .i64 ps)).setCell ⟨w.heap.size + 1, 2, none⟩ (.bool pp)).setCell ⟨w.heap.size + 1, 3, none⟩ (.int .i64 m)).setCell ⟨w.heap.size + 1, 4, none⟩ (.bool ph)).setCell ⟨w.heap.size + 1, 5, none⟩ (.int .i64 (pd - 1))).cell? ⟨w4.heap.size, 2, none⟩ = some (.bool pp) := cell_of_row _ _ 2 _ _ _ rx
              have mx6_3 : ((((((u9.setCell ⟨w.heap.size + 1, 0, none⟩ (.slice A2 d.length c2)).setCell ⟨w.heap.size + 1, 1, none⟩ (.int .i64 ps)).setCell ⟨w.heap.size + 1, 2, none⟩ (.bool pp)).setCell ⟨w.heap.size + 1, 3, none⟩ (.int .i64 m)).setCell ⟨w.heap.size + 1, 4, none⟩ (.bool ph)).setCell ⟨w.heap.size + 1, 5, none⟩ (.int .i64 (pd - 1))).cell? ⟨w4.heap.size, 3, none⟩ = some (.int .i64 m) := cell_of_row _ _ 3 _ _ _ rx
              have mx6_4 : ((((((u9.setCell ⟨w.heap.size + 1, 0, none⟩ (.slice A2 d.length c2)).setCell ⟨w.heap.size + 1, 1, none⟩ (.int .i64 ps)).setCell ⟨w.heap.size + 1, 2, none⟩ (.bool pp)).setCell ⟨w.heap.size + 1, 3, none⟩ (.int .i64 m)).setCell ⟨w.heap.size + 1, 4, none⟩ (.bool ph)).setCell ⟨w.heap.size + 1, 5, none⟩ (.int .i64 (pd - 1))).cell? ⟨w4.heap.size, 4, none⟩ = some (.bool ph) := cell_of_row _ _ 4 _ _ _ rx
              have mx6_5 : ((((((u9.setCell ⟨w.heap.size + 1, 0, none⟩ (.slice A2 d.length c2)).setCell ⟨w.heap.size + 1, 1, none⟩ (.int .i64 ps)).setCell ⟨w.heap.size + 1, 2, none⟩ (.bool pp)).setCell ⟨w.heap.size + 1, 3, none⟩ (.int .i64 m)).setCell ⟨w.heap.size + 1, 4, none⟩ (.bool ph)).setCell ⟨w.heap.size + 1, 5, none⟩ (.int .i64 (pd - 1))).cell? ⟨w4.heap.size, 5, none⟩ = some (.int .i64 (pd - 1)) := cell_of_row _ _ 5 _ _ _ rx
              go_simp
              refine hK.out _ _ ⟨ma10_0, ma10_1, ma10_2, ma10_3, ma10_4, ma10_5, mx6_0, mx6_1, mx6_2, mx6_3, mx6_4, mx6_5⟩ (fun hHeld => ?_)
              clear z10_0 z10_1 z10_2 z10_3 z10_4 z10_5 ma9_0 ma9_1 ma9_2 ma9_3 ma9_4 ma9_5 mr8_0 mr8_1 mr8_2 mr8_3 mr8_4 mr8_5 mx5_0 mx5_1 mx5_2 mx5_3 mx5_4 mx5_5
              generalize ((((((u9.setCell ⟨w.heap.size + 1, 0, none⟩ (.slice A2 d.length c2)).setCell ⟨w.heap.size + 1, 1, none⟩ (.int .i64 ps)).setCell ⟨w.heap.size + 1, 2, none⟩ (.bool pp)).setCell ⟨w.heap.size + 1, 3, none⟩ (.int .i64 m)).setCell ⟨w.heap.size + 1, 4, none⟩ (.bool ph)).setCell ⟨w.heap.size + 1, 5, none⟩ (.int .i64 (pd - 1))) = u10 at *
              clear hK K
              try simp only [Act.put, List.getElem_toArray, List.getElem_cons_zero, List.getElem_cons_succ, List.setIfInBounds_toArray, List.set_cons_zero, List.set_cons_succ]
              refine wpAnyH_take (i := 9) (v := ?_) rfl (by kernel_rfl) (by kernel_rfl) (by kernel_rfl) (fun _ _ _ h => h) (Or.inl ⟨by rfl, ?_⟩) (by assumption) ?_
              rotate_left
              · (intro wz hSw; (try dsimp only at hSw); go_simp; try with_reducible rfl)
              simp only [Act.put, List.getElem_toArray, List.getElem_cons_zero, List.getElem_cons_succ, List.setIfInBounds_toArray, List.set_cons_zero, List.set_cons_succ]
              refine wpAnyH_take (i := 10) (v := ?_) rfl (by kernel_rfl) (by kernel_rfl) (by kernel_rfl) (fun _ _ _ h => h) (Or.inl ⟨by rfl, ?_⟩) (by assumption) ?_
              rotate_left
              · (intro wz hSw; (try dsimp only at hSw); go_simp; try with_reducible rfl)
              simp only [Act.put, List.getElem_toArray, List.getElem_cons_zero, List.getElem_cons_succ, List.setIfInBounds_toArray, List.set_cons_zero, List.set_cons_succ]
              refine wpAnyH_done (by kernel_rfl) ?_ _
              refine NoPanic.normal ?_
              go_wp2_with fail
              refine bodyPost_ret (v := .tuple #[.agg #[.slice A2 d.length c2, .int .i64 ps, .bool pp, .int .i64 m, .bool ph, .int .i64 (pd - 1)], .int .i64 x, .bool true]) (by simp only [results, Try.results28]; simp [go_sem, mr9_0, mr9_1, mr9_2, mr9_3, mr9_4, mr9_5]) rfl ?_
              rw [HE.out, HF.out]
              exact RetF.of (f := fun y => .tuple #[ansR ps pp m ph (pd - 1) y, .int .i64 x, .bool true]) o2 (by omega) (by omega) hB
            exact AllReadyH.nil
          refine AllReadyH.cons rfl (fun K hK => ?_) ?_
          · have z10_0 := frzRow rr 0
            have z10_1 := frzRow rr 1
            have z10_2 := frzRow rr 2
            have z10_3 := frzRow rr 3
            have z10_4 := frzRow rr 4
            have z10_5 := frzRow rr 5
            replace ra := rowSet (rowSet (rowSet (rowSet (rowSet (rowSet (ra) ⟨w.heap.size + 1, 0, none⟩ (.slice A2 d.length c2) (by show _ ≠ w.heap.size + 1; omega)) ⟨w.heap.size + 1, 1, none⟩ (.int .i64 ps) (by show _ ≠ w.heap.size + 1; omega)) ⟨w.heap.size + 1, 2, none⟩ (.bool pp) (by show _ ≠ w.heap.size + 1; omega)) ⟨w.heap.size + 1, 3, none⟩ (.int .i64 m) (by show _ ≠ w.heap.size + 1; omega)) ⟨w.heap.size + 1, 4, none⟩ (.bool ph) (by show _ ≠ w.heap.size + 1; omega)) ⟨w.heap.size + 1, 5, none⟩ (.int .i64 (pd - 1)) (by show _ ≠ w.heap.size + 1; omega)
            replace rx := rowSet (rowSet (rowSet (rowSet (rowSet (rowSet (rx) ⟨w.heap.size + 1, 0, none⟩ (.slice A2 d.length c2) (by show _ ≠ w.heap.size + 1; omega)) ⟨w.heap.size + 1, 1, none⟩ (.int .i64 ps) (by show _ ≠ w.heap.size + 1; omega)) ⟨w.heap.size + 1, 2, none⟩ (.bool pp) (by show _ ≠ w.heap.size + 1; omega)) ⟨w.heap.size + 1, 3, none⟩ (.int .i64 m) (by show _ ≠ w.heap.size + 1; omega)) ⟨w.heap.size + 1, 4, none⟩ (.bool ph) (by show _ ≠ w.heap.size + 1; omega)) ⟨w.heap.size + 1, 5, none⟩ (.int .i64 (pd - 1)) (by show _ ≠ w.heap.size + 1; omega)
            replace rr := put5 (put4 (put3 (put2 (put1 (put0 (rr) (.slice A2 d.length c2)) (.int .i64 ps)) (.bool pp)) (.int .i64 m)) (.bool ph)) (.int .i64 (pd - 1))
            replace o2 := ((((((o2).setOther ⟨w.heap.size + 1, 0, none⟩ (.slice A2 d.length c2) (by show w.heap.size + 1 < _ ∨ _ ≤ w.heap.size + 1; omega)).setOther ⟨w.heap.size + 1, 1, none⟩ (.int .i64 ps) (by show w.heap.size + 1 < _ ∨ _ ≤ w.heap.size + 1; omega)).setOther ⟨w.heap.size + 1, 2, none⟩ (.bool pp) (by show w.heap.size + 1 < _ ∨ _ ≤ w.heap.size + 1; omega)).setOther ⟨w.heap.size + 1, 3, none⟩ (.int .i64 m) (by show w.heap.size + 1 < _ ∨ _ ≤ w.heap.size + 1; omega)).setOther ⟨w.heap.size + 1, 4, none⟩ (.bool ph) (by show w.heap.size + 1 < _ ∨ _ ≤ w.heap.size + 1; omega)).setOther ⟨w.heap.size + 1, 5, none⟩ (.int .i64 (pd - 1)) (by show w.heap.size + 1 < _ ∨ _ ≤ w.heap.size + 1; omega)
            replace h := ((((((h).setOther ⟨w.heap.size + 1, 0, none⟩ (.slice A2 d.length c2) (by show _ ≤ w.heap.size + 1; omega)).setOther ⟨w.heap.size + 1, 1, none⟩ (.int .i64 ps) (by show _ ≤ w.heap.size + 1; omega)).setOther ⟨w.heap.size + 1, 2, none⟩ (.bool pp) (by show _ ≤ w.heap.size + 1; omega)).setOther ⟨w.heap.size + 1, 3, none⟩ (.int .i64 m) (by show _ ≤ w.heap.size + 1; omega)).setOther ⟨w.heap.size + 1, 4, none⟩ (.bool ph) (by show _ ≤ w.heap.size + 1; omega)).setOther ⟨w.heap.size + 1, 5, none⟩ (.int .i64 (pd - 1)) (by show _ ≤ w.heap.size + 1; omega)
            replace hB := ((((((hB).setCell (p := ⟨w.heap.size + 1, 0, none⟩) (by show _ ≤ w.heap.size + 1; omega) (.slice A2 d.length c2)).setCell (p := ⟨w.heap.size + 1, 1, none⟩) (by show _ ≤ w.heap.size + 1; omega) (.int .i64 ps)).setCell (p := ⟨w.heap.size + 1, 2, none⟩) (by show _ ≤ w.heap.size + 1; omega) (.bool pp)).setCell (p := ⟨w.heap.size + 1, 3, none⟩) (by show _ ≤ w.heap.size + 1; omega) (.int .i64 m)).setCell (p := ⟨w.heap.size + 1, 4, none⟩) (by show _ ≤ w.heap.size + 1; omega) (.bool ph)).setCell (p := ⟨w.heap.size + 1, 5, none⟩) (by show _ ≤ w.heap.size + 1; omega) (.int .i64 (pd - 1))
            have s10 : u9.heap.size ≤ ((((((u9.setCell ⟨w.heap.size + 1, 0, none⟩ (.slice A2 d.length c2)).setCell ⟨w.heap.size + 1, 1, none⟩ (.int .i64 ps)).setCell ⟨w.heap.size + 1, 2, none⟩ (.bool pp)).setCell ⟨w.heap.size + 1, 3, none⟩ (.int .i64 m)).setCell ⟨w.heap.size + 1, 4, none⟩ (.bool ph)).setCell ⟨w.heap.size + 1, 5, none⟩ (.int .i64 (pd - 1))).heap.size := by simp only [World.size_setCell]; exact Nat.le_refl _
            have ma10_0 : ((((((u9.setCell ⟨w.heap.size + 1, 0, none⟩ (.slice A2 d.length c2)).setCell ⟨w.heap.size + 1, 1, none⟩ (.int .i64 ps)).setCell ⟨w.heap.size + 1, 2, none⟩ (.bool pp)).setCell ⟨w.heap.size + 1, 3, none⟩ (.int .i64 m)).setCell ⟨w.heap.size + 1, 4, none⟩ (.bool ph)).setCell ⟨w.heap.size + 1, 5, none⟩ (.int .i64 (pd - 1))).cell? ⟨w.heap.size, 0, none⟩ = some (.slice (some ⟨b, o, none⟩) d.length c) := cell_of_row _ _ 0 _ _ _ ra
            have ma10_1 : ((((((u9.setCell ⟨w.heap.size + 1, 0, none⟩ (.slice A2 d.length c2)).setCell ⟨w.heap.size + 1, 1, none⟩ (.int .i64 ps)).setCell ⟨w.heap.size + 1, 2, none⟩ (.bool pp)).setCell ⟨w.heap.size + 1, 3, none⟩ (.int .i64 m)).setCell ⟨w.heap.size + 1, 4, none⟩ (.bool ph)).setCell ⟨w.heap.size + 1, 5, none⟩ (.int .i64 (pd - 1))).cell? ⟨w.heap.size, 1, none⟩ = some (.int .i64 ps) := cell_of_row _ _ 1 _ _ _ ra
            have ma10_2 : ((((((u9.setCell ⟨w.heap.size + 1, 0, none⟩ (.slice A2 d.length c2)).setCell ⟨w.heap.size + 1, 1, none⟩ (.int .i64 ps)).setCell ⟨w.heap.size + 1, 2, none⟩ (.bool pp)).setCell ⟨w.heap.size + 1, 3, none⟩ (.int .i64 m)).setCell ⟨w.heap.size + 1, 4, none⟩ (.bool ph)).setCell ⟨w.heap.size + 1, 5, none⟩ (.int .i64 (pd - 1))).cell? ⟨w.heap.size, 2, none⟩ = some (.bool pp) := cell_of_row _ _ 2 _ _ _ ra
            have ma10_3 : ((((((u9.setCell ⟨w.heap.size + 1, 0, none⟩ (.slice A2 d.length c2)).setCell ⟨w.heap.size + 1, 1, none⟩ (.int .i64 ps)).setCell ⟨w.heap.size + 1, 2, none⟩ (.bool pp)).setCell ⟨w.heap.size + 1, 3, none⟩ (.int .i64 m)).setCell ⟨w.heap.size + 1, 4, none⟩ (.bool ph)).setCell ⟨w.heap.size + 1, 5, none⟩ (.int .i64 (pd - 1))).cell? ⟨w.heap.size, 3, none⟩ = some (.int .i64 (t : Int)) := cell_of_row _ _ 3 _ _ _ ra
            have ma10_4 : ((((((u9.setCell ⟨w.heap.size + 1, 0, none⟩ (.slice A2 d.length c2)).setCell ⟨w.heap.size + 1, 1, none⟩ (.int .i64 ps)).setCell ⟨w.heap.size + 1, 2, none⟩ (.bool pp)).setCell ⟨w.heap.size + 1, 3, none⟩ (.int .i64 m)).setCell ⟨w.heap.size + 1, 4, none⟩ (.bool ph)).setCell ⟨w.heap.size + 1, 5, none⟩ (.int .i64 (pd - 1))).cell? ⟨w.heap.size, 4, none⟩ = some (.bool ph) := cell_of_row _ _ 4 _ _ _ ra
            have ma10_5 : ((((((u9.setCell ⟨w.heap.size + 1, 0, none⟩ (.slice A2 d.length c2)).setCell ⟨w.heap.size + 1, 1, none⟩ (.int .i64 ps)).setCell ⟨w.heap.size + 1, 2, none⟩ (.bool pp)).setCell ⟨w.heap.size + 1, 3, none⟩ (.int .i64 m)).setCell ⟨w.heap.size + 1, 4, none⟩ (.bool ph)).setCell ⟨w.heap.size + 1, 5, none⟩ (.int .i64 (pd - 1))).cell? ⟨w.heap.size, 5, none⟩ = some (.int .i64 pd) := cell_of_row _ _ 5 _ _ _ ra
            have mr9_0 : ((((((u9.setCell ⟨w.heap.size + 1, 0, none⟩ (.slice A2 d.length c2)).setCell ⟨w.heap.size + 1, 1, none⟩ (.int .i64 ps)).setCell ⟨w.heap.size + 1, 2, none⟩ (.bool pp)).setCell ⟨w.heap.size + 1, 3, none⟩ (.int .i64 m)).setCell ⟨w.heap.size + 1, 4, none⟩ (.bool ph)).setCell ⟨w.heap.size + 1, 5, none⟩ (.int .i64 (pd - 1))).cell? ⟨w.heap.size + 1, 0, none⟩ = some (.slice A2 d.length c2) := cell_of_row _ _ 0 _ _ _ rr
            have mr9_1 : ((((((u9.setCell ⟨w.heap.size + 1, 0, none⟩ (.slice A2 d.length c2)).setCell ⟨w.heap.size + 1, 1, none⟩ (.int .i64 ps)).setCell ⟨w.heap.size + 1, 2, none⟩ (.bool pp)).setCell ⟨w.heap.size + 1, 3, none⟩ (.int .i64 m)).setCell ⟨w.heap.size + 1, 4, none⟩ (.bool ph)).setCell ⟨w.heap.size + 1, 5, none⟩ (.int .i64 (pd - 1))).cell? ⟨w.heap.size + 1, 1, none⟩ = some (.int .i64 ps) := cell_of_row _ _ 1 _ _ _ rr
            have mr9_2 : ((((((u9.setCell ⟨w.heap.size + 1, 0, none⟩ (.slice A2 d.length c2)).setCell ⟨w.heap.size + 1, 1, none⟩ (.int .i64 ps)).setCell ⟨w.heap.size + 1, 2, none⟩ (.bool pp)).setCell ⟨w.heap.size + 1, 3, none⟩ (.int .i64 m)).setCell ⟨w.heap.size + 1, 4, none⟩ (.bool ph)).setCell ⟨w.heap.size + 1, 5, none⟩ (.int .i64 (pd - 1))).cell? ⟨w.heap.size + 1, 2, none⟩ = some (.bool pp) := cell_of_row _ _ 2 _ _ _ rr
            have mr9_3 : ((((((u9.setCell ⟨w.heap.size + 1, 0, none⟩ (.slice A2 d.length c2)).setCell ⟨w.heap.size + 1, 1, none⟩ (.int .i64 ps)).setCell ⟨w.heap.size + 1, 2, none⟩ (.bool pp)).setCell ⟨w.heap.size + 1, 3, none⟩ (.int .i64 m)).setCell ⟨w.heap.size + 1, 4, none⟩ (.bool ph)).setCell ⟨w.heap.size + 1, 5, none⟩ (.int .i64 (pd - 1))).cell? ⟨w.heap.size + 1, 3, none⟩ = some (.int .i64 m) := cell_of_row _ _ 3 _ _ _ rr
            have mr9_4 : ((((((u9.setCell ⟨w.heap.size + 1, 0, none⟩ (.slice A2 d.length c2)).setCell ⟨w.heap.size + 1, 1, none⟩ (.int .i64 ps)).setCell ⟨w.heap.size + 1, 2, none⟩ (.bool pp)).setCell ⟨w.heap.size + 1, 3, none⟩ (.int .i64 m)).setCell ⟨w.heap.size + 1, 4, none⟩ (.bool ph)).setCell ⟨w.heap.size + 1, 5, none⟩ (.int .i64 (pd - 1))).cell? ⟨w.heap.size + 1, 4, none⟩ = some (.bool ph) := cell_of_row _ _ 4 _ _ _ rr
            have mr9_5 : ((((((u9.setCell ⟨w.heap.size + 1, 0, none⟩ (.slice A2 d.length c2)).setCell ⟨w.heap.size + 1, 1, none⟩ (.int .i64 ps)).setCell ⟨w.heap.size + 1, 2, none⟩ (.bool pp)).setCell ⟨w.heap.size + 1, 3, none⟩ (.int .i64 m)).setCell ⟨w.heap.size + 1, 4, none⟩ (.bool ph)).setCell ⟨w.heap.size + 1, 5, none⟩ (.int .i64 (pd - 1))).cell? ⟨w.heap.size + 1, 5, none⟩ = some (.int .i64 (pd - 1)) := cell_of_row _ _ 5 _ _ _ rr
            have mx6_0 : ((((((u9.setCell ⟨w.heap.size + 1, 0, none⟩ (.slice A2 d.length c2)).setCell ⟨w.heap.size + 1, 1, none⟩ (.int .i64 ps)).setCell ⟨w.heap.size + 1, 2, none⟩ (.bool pp)).setCell ⟨w.heap.size + 1, 3, none⟩ (.int .i64 m)).setCell ⟨w.heap.size + 1, 4, none⟩ (.bool ph)).setCell ⟨w.heap.size + 1, 5, none⟩ (.int .i64 (pd - 1))).cell? ⟨w4.heap.size, 0, none⟩ = some (.slice A2 d.length c2) := cell_of_row _ _ 0 _ _ _ rx
            have mx6_1 : ((((((u9.setCell ⟨w.heap.size + 1, 0, none⟩ (.slice A2 d.length c2)).setCell ⟨w.heap.size + 1, 1, none⟩ (.int .i64 ps)).setCell ⟨w.heap.size + 1, 2, none⟩ (.bool pp)).setCell ⟨w.heap.size + 1, 3, none⟩ (.int .i64 m)).setCell ⟨w.heap.size + 1, 4, none⟩ (.bool ph)).setCell ⟨w.heap.size + 1, 5, none⟩ (.int .i64 (pd - 1))).cell? ⟨w4.heap.size, 1, none⟩ = some (.int .i64 ps) := cell_of_row _ _ 1 _ _ _ rx
            have mx6_2 : ((((((u9.setCell ⟨w.heap.size + 1, 0, none⟩ (.slice A2 d.length c2)).setCell ⟨w.heap.size + 1, 1, none⟩ (.int .i64 ps)).setCell ⟨w.heap.size + 1, 2, none⟩ (.bool pp)).setCell ⟨w.heap.size + 1, 3, none⟩ (.int .i64 m)).setCell ⟨w.heap.size + 1, 4, none⟩ (.bool ph)).setCell ⟨w.heap.size + 1, 5, none⟩ (.int .i64 (pd - 1))).cell? ⟨w4.heap.size, 2, none⟩ = some (.bool pp) := cell_of_row _ _ 2 _ _ _ rx
            have mx6_3 : ((((((u9.setCell ⟨w.heap.size + 1, 0, none⟩ (.slice A2 d.length c2)).setCell ⟨w.heap.size + 1, 1, none⟩ (.int .i64 ps)).setCell ⟨w.heap.size + 1, 2, none⟩ (.bool pp)).setCell ⟨w.heap.size + 1, 3, none⟩ (.int .i64 m)).setCell ⟨w.heap.size + 1, 4, none⟩ (.bool ph)).setCell ⟨w.heap.size + 1, 5, none⟩ (.int .i64 (pd - 1))).cell? ⟨w4.heap.size, 3, none⟩ = some (.int .i64 m) := cell_of_row _ _ 3 _ _ _ rx
            have mx6_4 : ((((((u9.setCell ⟨w.heap.size + 1, 0, none⟩ (.slice A2 d.length c2)).setCell ⟨w.heap.size + 1, 1, none⟩ (.int .i64 ps)).setCell ⟨w.heap.size + 1, 2, none⟩ (.bool pp)).setCell ⟨w.heap.size + 1, 3, none⟩ (.int .i64 m)).setCell ⟨w.heap.size + 1, 4, none⟩ (.bool ph)).setCell ⟨w.heap.size + 1, 5, none⟩ (.int .i64 (pd - 1))).cell? ⟨w4.heap.size, 4, none⟩ = some (.bool ph) := cell_of_row _ _ 4 _ _ _ rx
            have mx6_5 : ((((((u9.setCell ⟨w.heap.size + 1, 0, none⟩ (.slice A2 d.length c2)).setCell ⟨w.heap.size + 1, 1, none⟩ (.int .i64 ps)).setCell ⟨w.heap.size + 1, 2, none⟩ (.bool pp)).setCell ⟨w.heap.size + 1, 3, none⟩ (.int .i64 m)).setCell ⟨w.heap.size + 1, 4, none⟩ (.bool ph)).setCell ⟨w.heap.size + 1, 5, none⟩ (.int .i64 (pd - 1))).cell? ⟨w4.heap.size, 5, none⟩ = some (.int .i64 (pd - 1)) := cell_of_row _ _ 5 _ _ _ rx
            go_simp
            refine hK.out _ _ ⟨ma10_0, ma10_1, ma10_2, ma10_3, ma10_4, ma10_5, mx6_0, mx6_1, mx6_2, mx6_3, mx6_4, mx6_5⟩ (fun hHeld => ?_)
            clear z10_0 z10_1 z10_2 z10_3 z10_4 z10_5 ma9_0 ma9_1 ma9_2 ma9_3 ma9_4 ma9_5 mr8_0 mr8_1 mr8_2 mr8_3 mr8_4 mr8_5 mx5_0 mx5_1 mx5_2 mx5_3 mx5_4 mx5_5
            generalize ((((((u9.setCell ⟨w.heap.size + 1, 0, none⟩ (.slice A2 d.length c2)).setCell ⟨w.heap.size + 1, 1, none⟩ (.int .i64 ps)).setCell ⟨w.heap.size + 1, 2, none⟩ (.bool pp)).setCell ⟨w.heap.size + 1, 3, none⟩ (.int .i64 m)).setCell ⟨w.heap.size + 1, 4, none⟩ (.bool ph)).setCell ⟨w.heap.size + 1, 5, none⟩ (.int .i64 (pd - 1))) = u10 at *
            clear hK K
            try simp only [Act.put, List.getElem_toArray, List.getElem_cons_zero, List.getElem_cons_succ, List.setIfInBounds_toArray, List.set_cons_zero, List.set_cons_succ]
            refine wpAnyH_ready (rs := [7]) (by kernel_rfl) (by simp) ?_
            refine AllReadyH.cons rfl (fun K hK => ?_) ?_
            · obtain ⟨hx0, hx1⟩ := h.ans_c t ht
              rw [HDT.out] at hx0 hx1
              simp only at hx0 hx1
              go_simp
              clear hx0 hx1
              refine hK.out _ _ ⟨ma10_0, ma10_1, ma10_2, ma10_3, ma10_4, ma10_5, mx6_0, mx6_1, mx6_2, mx6_3, mx6_4, mx6_5⟩ (fun hHeld => ?_)
              clear hK K
              try simp only [Act.put, List.getElem_toArray, List.getElem_cons_zero, List.getElem_cons_succ, List.setIfInBounds_toArray, List.set_cons_zero, List.set_cons_succ]
              refine wpAnyH_take (i := 9) (v := ?_) rfl (by kernel_rfl) (by kernel_rfl) (by kernel_rfl) (fun _ _ _ h => h) (Or.inl ⟨by rfl, ?_⟩) (by assumption) ?_
              rotate_left
              · (intro wz hSw; (try dsimp only at hSw); go_simp; try with_reducible rfl)
              simp only [Act.put, List.getElem_toArray, List.getElem_cons_zero, List.getElem_cons_succ, List.setIfInBounds_toArray, List.set_cons_zero, List.set_cons_succ]
              refine wpAnyH_take (i := 10) (v := ?_) rfl (by kernel_rfl) (by kernel_rfl) (by kernel_rfl) (fun _ _ _ h => h) (Or.inl ⟨by rfl, ?_⟩) (by assumption) ?_
              rotate_left
              · (intro wz hSw; (try dsimp only at hSw); go_simp; try with_reducible rfl)
              simp only [Act.put, List.getElem_toArray, List.getElem_cons_zero, List.getElem_cons_succ, List.setIfInBounds_toArray, List.set_cons_zero, List.set_cons_succ]
              refine wpAnyH_done (by kernel_rfl) ?_ _
              refine NoPanic.normal ?_
              go_wp2_with fail
              refine bodyPost_ret (v := .tuple #[.agg #[.slice A2 d.length c2, .int .i64 ps, .bool pp, .int .i64 m, .bool ph, .int .i64 (pd - 1)], .int .i64 x, .bool true]) (by simp only [results, Try.results28]; simp [go_sem, mr9_0, mr9_1, mr9_2, mr9_3, mr9_4, mr9_5]) rfl ?_
              rw [HE.out, HF.out]
              exact RetF.of (f := fun y => .tuple #[ansR ps pp m ph (pd - 1) y, .int .i64 x, .bool true]) o2 (by omega) (by omega) hB
            exact AllReadyH.nil
          exact AllReadyH.nil
        exact AllReadyH.nil
    · have HP := Lib.hid (atake_none ⟨d, ps, pp, (t : Int), tp, pd⟩ hv (by show pd ≤ 0; omega))
      have hph : ph = !tp := by rw [decide_eq_false hp] at hna; revert hna; cases ph <;> cases tp <;> simp
      subst hph
      have hbt : ((!tp) != tp) = true := by cases tp <;> rfl
      clear hv hp hna hav
      have hn1 := below_new w (.cells #[.slice (some ⟨b, o, none⟩) d.length c, .int .i64 ps, .bool pp, .int .i64 (t : Int), .bool tp, .int .i64 pd] 24)
      replace h := h.below hn1 (by omega)
      replace hB := below_later hB hn1 (by omega)
      clear hn1
      have s1 : w.heap.size < (w.alloc (.cells #[.slice (some ⟨b, o, none⟩) d.length c, .int .i64 ps, .bool pp, .int .i64 (t : Int), .bool tp, .int .i64 pd] 24)).heap.size := Nat.lt_of_lt_of_eq (Nat.lt_succ_self _) (World.size_alloc _ _).symm
      have ra : (w.alloc (.cells #[.slice (some ⟨b, o, none⟩) d.length c, .int .i64 ps, .bool pp, .int .i64 (t : Int), .bool tp, .int .i64 pd] 24)).heap[w.heap.size]? = some (.cells #[.slice (some ⟨b, o, none⟩) d.length c, .int .i64 ps, .bool pp, .int .i64 (t : Int), .bool tp, .int .i64 pd] 24 (0, 0)) := by have q := heap_alloc_new w (.cells #[.slice (some ⟨b, o, none⟩) d.length c, .int .i64 ps, .bool pp, .int .i64 (t : Int), .bool tp, .int .i64 pd] 24); (try simp only [World.size_alloc, World.size_setCell] at q); exact q
      have ma1_0 : (w.alloc (.cells #[.slice (some ⟨b, o, none⟩) d.length c, .int .i64 ps, .bool pp, .int .i64 (t : Int), .bool tp, .int .i64 pd] 24)).cell? ⟨w.heap.size, 0, none⟩ = some (.slice (some ⟨b, o, none⟩) d.length c) := cell_of_row _ _ 0 _ _ _ ra
      have ma1_1 : (w.alloc (.cells #[.slice (some ⟨b, o, none⟩) d.length c, .int .i64 ps, .bool pp, .int .i64 (t : Int), .bool tp, .int .i64 pd] 24)).cell? ⟨w.heap.size, 1, none⟩ = some (.int .i64 ps) := cell_of_row _ _ 1 _ _ _ ra
      have ma1_2 : (w.alloc (.cells #[.slice (some ⟨b, o, none⟩) d.length c, .int .i64 ps, .bool pp, .int .i64 (t : Int), .bool tp, .int .i64 pd] 24)).cell? ⟨w.heap.size, 2, none⟩ = some (.bool pp) := cell_of_row _ _ 2 _ _ _ ra
      have ma1_3 : (w.alloc (.cells #[.slice (some ⟨b, o, none⟩) d.length c, .int .i64 ps, .bool pp, .int .i64 (t : Int), .bool tp, .int .i64 pd] 24)).cell? ⟨w.heap.size, 3, none⟩ = some (.int .i64 (t : Int)) := cell_of_row _ _ 3 _ _ _ ra
      have ma1_4 : (w.alloc (.cells #[.slice (some ⟨b, o, none⟩) d.length c, .int .i64 ps, .bool pp, .int .i64 (t : Int), .bool tp, .int .i64 pd] 24)).cell? ⟨w.heap.size, 4, none⟩ = some (.bool tp) := cell_of_row _ _ 4 _ _ _ ra
      have ma1_5 : (w.alloc (.cells #[.slice (some ⟨b, o, none⟩) d.length c, .int .i64 ps, .bool pp, .int .i64 (t : Int), .bool tp, .int .i64 pd] 24)).cell? ⟨w.heap.size, 5, none⟩ = some (.int .i64 pd) := cell_of_row _ _ 5 _ _ _ ra
      have hn2 := below_new (w.alloc (.cells #[.slice (some ⟨b, o, none⟩) d.length c, .int .i64 ps, .bool pp, .int .i64 (t : Int), .bool tp, .int .i64 pd] 24)) (.cells #[.slice none 0 0, .int .i64 0, .bool false, .int .i64 0, .bool false, .int .i64 0] 24)
      replace ra := rowKeep ra hn2
      replace h := h.below hn2 (by omega)
      replace hB := below_later hB hn2 (by omega)
      have ma2_0 : ((w.alloc (.cells #[.slice (some ⟨b, o, none⟩) d.length c, .int .i64 ps, .bool pp, .int .i64 (t : Int), .bool tp, .int .i64 pd] 24)).alloc (.cells #[.slice none 0 0, .int .i64 0, .bool false, .int .i64 0, .bool false, .int .i64 0] 24)).cell? ⟨w.heap.size, 0, none⟩ = some (.slice (some ⟨b, o, none⟩) d.length c) := cell_of_row _ _ 0 _ _ _ ra
      have ma2_1 : ((w.alloc (.cells #[.slice (some ⟨b, o, none⟩) d.length c, .int .i64 ps, .bool pp, .int .i64 (t : Int), .bool tp, .int .i64 pd] 24)).alloc (.cells #[.slice none 0 0, .int .i64 0, .bool false, .int .i64 0, .bool false, .int .i64 0] 24)).cell? ⟨w.heap.size, 1, none⟩ = some (.int .i64 ps) := cell_of_row _ _ 1 _ _ _ ra
      have ma2_2 : ((w.alloc (.cells #[.slice (some ⟨b, o, none⟩) d.length c, .int .i64 ps, .bool pp, .int .i64 (t : Int), .bool tp, .int .i64 pd] 24)).alloc (.cells #[.slice none 0 0, .int .i64 0, .bool false, .int .i64 0, .bool false, .int .i64 0] 24)).cell? ⟨w.heap.size, 2, none⟩ = some (.bool pp) := cell_of_row _ _ 2 _ _ _ ra
      have ma2_3 : ((w.alloc (.cells #[.slice (some ⟨b, o, none⟩) d.length c, .int .i64 ps, .bool pp, .int .i64 (t : Int), .bool tp, .int .i64 pd] 24)).alloc (.cells #[.slice none 0 0, .int .i64 0, .bool false, .int .i64 0, .bool false, .int .i64 0] 24)).cell? ⟨w.heap.size, 3, none⟩ = some (.int .i64 (t : Int)) := cell_of_row _ _ 3 _ _ _ ra
      have ma2_4 : ((w.alloc (.cells #[.slice (some ⟨b, o, none⟩) d.length c, .int .i64 ps, .bool pp, .int .i64 (t : Int), .bool tp, .int .i64 pd] 24)).alloc (.cells #[.slice none 0 0, .int .i64 0, .bool false, .int .i64 0, .bool false, .int .i64 0] 24)).cell? ⟨w.heap.size, 4, none⟩ = some (.bool tp) := cell_of_row _ _ 4 _ _ _ ra
      have ma2_5 : ((w.alloc (.cells #[.slice (some ⟨b, o, none⟩) d.length c, .int .i64 ps, .bool pp, .int .i64 (t : Int), .bool tp, .int .i64 pd] 24)).alloc (.cells #[.slice none 0 0, .int .i64 0, .bool false, .int .i64 0, .bool false, .int .i64 0] 24)).cell? ⟨w.heap.size, 5, none⟩ = some (.int .i64 pd) := cell_of_row _ _ 5 _ _ _ ra
      clear hn2
      have s2 : (w.alloc (.cells #[.slice (some ⟨b, o, none⟩) d.length c, .int .i64 ps, .bool pp, .int .i64 (t : Int), .bool tp, .int .i64 pd] 24)).heap.size < ((w.alloc (.cells #[.slice (some ⟨b, o, none⟩) d.length c, .int .i64 ps, .bool pp, .int .i64 (t : Int), .bool tp, .int .i64 pd] 24)).alloc (.cells #[.slice none 0 0, .int .i64 0, .bool false, .int .i64 0, .bool false, .int .i64 0] 24)).heap.size := Nat.lt_of_lt_of_eq (Nat.lt_succ_self _) (World.size_alloc _ _).symm
      have rr : ((w.alloc (.cells #[.slice (some ⟨b, o, none⟩) d.length c, .int .i64 ps, .bool pp, .int .i64 (t : Int), .bool tp, .int .i64 pd] 24)).alloc (.cells #[.slice none 0 0, .int .i64 0, .bool false, .int .i64 0, .bool false, .int .i64 0] 24)).heap[w.heap.size + 1]? = some (.cells #[.slice none 0 0, .int .i64 0, .bool false, .int .i64 0, .bool false, .int .i64 0] 24 (0, 0)) := by have q := heap_alloc_new (w.alloc (.cells #[.slice (some ⟨b, o, none⟩) d.length c, .int .i64 ps, .bool pp, .int .i64 (t : Int), .bool tp, .int .i64 pd] 24)) (.cells #[.slice none 0 0, .int .i64 0, .bool false, .int .i64 0, .bool false, .int .i64 0] 24); (try simp only [World.size_alloc, World.size_setCell] at q); exact q
      have mr1_0 : ((w.alloc (.cells #[.slice (some ⟨b, o, none⟩) d.length c, .int .i64 ps, .bool pp, .int .i64 (t : Int), .bool tp, .int .i64 pd] 24)).alloc (.cells #[.slice none 0 0, .int .i64 0, .bool false, .int .i64 0, .bool false, .int .i64 0] 24)).cell? ⟨w.heap.size + 1, 0, none⟩ = some (.slice none 0 0) := cell_of_row _ _ 0 _ _ _ rr
      have mr1_1 : ((w.alloc (.cells #[.slice (some ⟨b, o, none⟩) d.length c, .int .i64 ps, .bool pp, .int .i64 (t : Int), .bool tp, .int .i64 pd] 24)).alloc (.cells #[.slice none 0 0, .int .i64 0, .bool false, .int .i64 0, .bool false, .int .i64 0] 24)).cell? ⟨w.heap.size + 1, 1, none⟩ = some (.int .i64 0) := cell_of_row _ _ 1 _ _ _ rr
      have mr1_2 : ((w.alloc (.cells #[.slice (some ⟨b, o, none⟩) d.length c, .int .i64 ps, .bool pp, .int .i64 (t : Int), .bool tp, .int .i64 pd] 24)).alloc (.cells #[.slice none 0 0, .int .i64 0, .bool false, .int .i64 0, .bool false, .int .i64 0] 24)).cell? ⟨w.heap.size + 1, 2, none⟩ = some (.bool false) := cell_of_row _ _ 2 _ _ _ rr
      have mr1_3 : ((w.alloc (.cells #[.slice (some ⟨b, o, none⟩) d.length c, .int .i64 ps, .bool pp, .int .i64 (t : Int), .bool tp, .int .i64 pd] 24)).alloc (.cells #[.slice none 0 0, .int .i64 0, .bool false, .int .i64 0, .bool false, .int .i64 0] 24)).cell? ⟨w.heap.size + 1, 3, none⟩ = some (.int .i64 0) := cell_of_row _ _ 3 _ _ _ rr
      have mr1_4 : ((w.alloc (.cells #[.slice (some ⟨b, o, none⟩) d.length c, .int .i64 ps, .bool pp, .int .i64 (t : Int), .bool tp, .int .i64 pd] 24)).alloc (.cells #[.slice none 0 0, .int .i64 0, .bool false, .int .i64 0, .bool false, .int .i64 0] 24)).cell? ⟨w.heap.size + 1, 4, none⟩ = some (.bool false) := cell_of_row _ _ 4 _ _ _ rr
      have mr1_5 : ((w.alloc (.cells #[.slice (some ⟨b, o, none⟩) d.length c, .int .i64 ps, .bool pp, .int .i64 (t : Int), .bool tp, .int .i64 pd] 24)).alloc (.cells #[.slice none 0 0, .int .i64 0, .bool false, .int .i64 0, .bool false, .int .i64 0] 24)).cell? ⟨w.heap.size + 1, 5, none⟩ = some (.int .i64 0) := cell_of_row _ _ 5 _ _ _ rr
      go_enter Try.func28, Try.ntmps28
      go_wp2_with fail
      clear ma1_0 ma1_1 ma1_2 ma1_3 ma1_4 ma1_5
      generalize (w.alloc (.cells #[.slice (some ⟨b, o, none⟩) d.length c, .int .i64 ps, .bool pp, .int .i64 (t : Int), .bool tp, .int .i64 pd] 24)) = u1 at *
      generalize (u1.alloc (.cells #[.slice none 0 0, .int .i64 0, .bool false, .int .i64 0, .bool false, .int .i64 0] 24)) = u2 at *
      have q := specAnswersValid_any (some ⟨b, o, none⟩) d.length c _ d ps pp (t : Int) tp pd u2 h (by omega)
      rw [HV.out] at q
      refine q.mono ?_
      clear q
      rintro e w3 ⟨rfl, b3⟩
      have s3 := b3.size
      clear ma2_0 ma2_1 ma2_2 ma2_3 ma2_4 ma2_5
      clear mr1_0 mr1_1 mr1_2 mr1_3 mr1_4 mr1_5
      replace ra := rowKeep ra b3
      replace rr := rowKeep rr b3
      replace h := h.below b3 (by omega)
      replace hB := below_later hB b3 (by omega)
      have ma3_0 : w3.cell? ⟨w.heap.size, 0, none⟩ = some (.slice (some ⟨b, o, none⟩) d.length c) := cell_of_row _ _ 0 _ _ _ ra
      have ma3_1 : w3.cell? ⟨w.heap.size, 1, none⟩ = some (.int .i64 ps) := cell_of_row _ _ 1 _ _ _ ra
      have ma3_2 : w3.cell? ⟨w.heap.size, 2, none⟩ = some (.bool pp) := cell_of_row _ _ 2 _ _ _ ra
      have ma3_3 : w3.cell? ⟨w.heap.size, 3, none⟩ = some (.int .i64 (t : Int)) := cell_of_row _ _ 3 _ _ _ ra
      have ma3_4 : w3.cell? ⟨w.heap.size, 4, none⟩ = some (.bool tp) := cell_of_row _ _ 4 _ _ _ ra
      have ma3_5 : w3.cell? ⟨w.heap.size, 5, none⟩ = some (.int .i64 pd) := cell_of_row _ _ 5 _ _ _ ra
      have mr2_0 : w3.cell? ⟨w.heap.size + 1, 0, none⟩ = some (.slice none 0 0) := cell_of_row _ _ 0 _ _ _ rr
      have mr2_1 : w3.cell? ⟨w.heap.size + 1, 1, none⟩ = some (.int .i64 0) := cell_of_row _ _ 1 _ _ _ rr
      have mr2_2 : w3.cell? ⟨w.heap.size + 1, 2, none⟩ = some (.bool false) := cell_of_row _ _ 2 _ _ _ rr
      have mr2_3 : w3.cell? ⟨w.heap.size + 1, 3, none⟩ = some (.int .i64 0) := cell_of_row _ _ 3 _ _ _ rr
      have mr2_4 : w3.cell? ⟨w.heap.size + 1, 4, none⟩ = some (.bool false) := cell_of_row _ _ 4 _ _ _ rr
      have mr2_5 : w3.cell? ⟨w.heap.size + 1, 5, none⟩ = some (.int .i64 0) := cell_of_row _ _ 5 _ _ _ rr
      clear b3
      go_wp2_with fail
      have q := l4Copy_any (some ⟨b, o, none⟩) d.length c _ d ps pp (t : Int) tp pd w3 h (by omega) (by omega)
      refine q.mono ?_
      clear q
      rintro e w4 ⟨A2, c2, rfl, o2, b4⟩
      have s4 := b4.size
      clear ma3_0 ma3_1 ma3_2 ma3_3 ma3_4 ma3_5
      clear mr2_0 mr2_1 mr2_2 mr2_3 mr2_4 mr2_5
      replace ra := rowKeep ra b4
      replace rr := rowKeep rr b4
      replace h := h.below b4 (by omega)
      replace hB := below_later hB b4 (by omega)
      have ma4_0 : w4.cell? ⟨w.heap.size, 0, none⟩ = some (.slice (some ⟨b, o, none⟩) d.length c) := cell_of_row _ _ 0 _ _ _ ra
      have ma4_1 : w4.cell? ⟨w.heap.size, 1, none⟩ = some (.int .i64 ps) := cell_of_row _ _ 1 _ _ _ ra
      have ma4_2 : w4.cell? ⟨w.heap.size, 2, none⟩ = some (.bool pp) := cell_of_row _ _ 2 _ _ _ ra
      have ma4_3 : w4.cell? ⟨w.heap.size, 3, none⟩ = some (.int .i64 (t : Int)) := cell_of_row _ _ 3 _ _ _ ra
      have ma4_4 : w4.cell? ⟨w.heap.size, 4, none⟩ = some (.bool tp) := cell_of_row _ _ 4 _ _ _ ra
      have ma4_5 : w4.cell? ⟨w.heap.size, 5, none⟩ = some (.int .i64 pd) := cell_of_row _ _ 5 _ _ _ ra
      have mr3_0 : w4.cell? ⟨w.heap.size + 1, 0, none⟩ = some (.slice none 0 0) := cell_of_row _ _ 0 _ _ _ rr
      have mr3_1 : w4.cell? ⟨w.heap.size + 1, 1, none⟩ = some (.int .i64 0) := cell_of_row _ _ 1 _ _ _ rr
      have mr3_2 : w4.cell? ⟨w.heap.size + 1, 2, none⟩ = some (.bool false) := cell_of_row _ _ 2 _ _ _ rr
      have mr3_3 : w4.cell? ⟨w.heap.size + 1, 3, none⟩ = some (.int .i64 0) := cell_of_row _ _ 3 _ _ _ rr
      have mr3_4 : w4.cell? ⟨w.heap.size + 1, 4, none⟩ = some (.bool false) := cell_of_row _ _ 4 _ _ _ rr
      have mr3_5 : w4.cell? ⟨w.heap.size + 1, 5, none⟩ = some (.int .i64 0) := cell_of_row _ _ 5 _ _ _ rr
      clear b4
      simp only [ansR]
      have hn5 := below_new w4 (.cells #[.slice A2 d.length c2, .int .i64 ps, .bool pp, .int .i64 (t : Int), .bool tp, .int .i64 pd] 24)
      replace ra := rowKeep ra hn5
      replace rr := rowKeep rr hn5
      replace o2 := o2.below hn5
      replace h := h.below hn5 (by omega)
      replace hB := below_later hB hn5 (by omega)
      have ma5_0 : (w4.alloc (.cells #[.slice A2 d.length c2, .int .i64 ps, .bool pp, .int .i64 (t : Int), .bool tp, .int .i64 pd] 24)).cell? ⟨w.heap.size, 0, none⟩ = some (.slice (some ⟨b, o, none⟩) d.length c) := cell_of_row _ _ 0 _ _ _ ra
      have ma5_1 : (w4.alloc (.cells #[.slice A2 d.length c2, .int .i64 ps, .bool pp, .int .i64 (t : Int), .bool tp, .int .i64 pd] 24)).cell? ⟨w.heap.size, 1, none⟩ = some (.int .i64 ps) := cell_of_row _ _ 1 _ _ _ ra
      have ma5_2 : (w4.alloc (.cells #[.slice A2 d.length c2, .int .i64 ps, .bool pp, .int .i64 (t : Int), .bool tp, .int .i64 pd] 24)).cell? ⟨w.heap.size, 2, none⟩ = some (.bool pp) := cell_of_row _ _ 2 _ _ _ ra
      have ma5_3 : (w4.alloc (.cells #[.slice A2 d.length c2, .int .i64 ps, .bool pp, .int .i64 (t : Int), .bool tp, .int .i64 pd] 24)).cell? ⟨w.heap.size, 3, none⟩ = some (.int .i64 (t : Int)) := cell_of_row _ _ 3 _ _ _ ra
      have ma5_4 : (w4.alloc (.cells #[.slice A2 d.length c2, .int .i64 ps, .bool pp, .int .i64 (t : Int), .bool tp, .int .i64 pd] 24)).cell? ⟨w.heap.size, 4, none⟩ = some (.bool tp) := cell_of_row _ _ 4 _ _ _ ra
      have ma5_5 : (w4.alloc (.cells #[.slice A2 d.length c2, .int .i64 ps, .bool pp, .int .i64 (t : Int), .bool tp, .int .i64 pd] 24)).cell? ⟨w.heap.size, 5, none⟩ = some (.int .i64 pd) := cell_of_row _ _ 5 _ _ _ ra
      have mr4_0 : (w4.alloc (.cells #[.slice A2 d.length c2, .int .i64 ps, .bool pp, .int .i64 (t : Int), .bool tp, .int .i64 pd] 24)).cell? ⟨w.heap.size + 1, 0, none⟩ = some (.slice none 0 0) := cell_of_row _ _ 0 _ _ _ rr
      have mr4_1 : (w4.alloc (.cells #[.slice A2 d.length c2, .int .i64 ps, .bool pp, .int .i64 (t : Int), .bool tp, .int .i64 pd] 24)).cell? ⟨w.heap.size + 1, 1, none⟩ = some (.int .i64 0) := cell_of_row _ _ 1 _ _ _ rr
      have mr4_2 : (w4.alloc (.cells #[.slice A2 d.length c2, .int .i64 ps, .bool pp, .int .i64 (t : Int), .bool tp, .int .i64 pd] 24)).cell? ⟨w.heap.size + 1, 2, none⟩ = some (.bool false) := cell_of_row _ _ 2 _ _ _ rr
      have mr4_3 : (w4.alloc (.cells #[.slice A2 d.length c2, .int .i64 ps, .bool pp, .int .i64 (t : Int), .bool tp, .int .i64 pd] 24)).cell? ⟨w.heap.size + 1, 3, none⟩ = some (.int .i64 0) := cell_of_row _ _ 3 _ _ _ rr
      have mr4_4 : (w4.alloc (.cells #[.slice A2 d.length c2, .int .i64 ps, .bool pp, .int .i64 (t : Int), .bool tp, .int .i64 pd] 24)).cell? ⟨w.heap.size + 1, 4, none⟩ = some (.bool false) := cell_of_row _ _ 4 _ _ _ rr
      have mr4_5 : (w4.alloc (.cells #[.slice A2 d.length c2, .int .i64 ps, .bool pp, .int .i64 (t : Int), .bool tp, .int .i64 pd] 24)).cell? ⟨w.heap.size + 1, 5, none⟩ = some (.int .i64 0) := cell_of_row _ _ 5 _ _ _ rr
      clear hn5
      have s5 : w4.heap.size < (w4.alloc (.cells #[.slice A2 d.length c2, .int .i64 ps, .bool pp, .int .i64 (t : Int), .bool tp, .int .i64 pd] 24)).heap.size := Nat.lt_of_lt_of_eq (Nat.lt_succ_self _) (World.size_alloc _ _).symm
      have rx : (w4.alloc (.cells #[.slice A2 d.length c2, .int .i64 ps, .bool pp, .int .i64 (t : Int), .bool tp, .int .i64 pd] 24)).heap[w4.heap.size]? = some (.cells #[.slice A2 d.length c2, .int .i64 ps, .bool pp, .int .i64 (t : Int), .bool tp, .int .i64 pd] 24 (0, 0)) := by have q := heap_alloc_new w4 (.cells #[.slice A2 d.length c2, .int .i64 ps, .bool pp, .int .i64 (t : Int), .bool tp, .int .i64 pd] 24); (try simp only [World.size_alloc, World.size_setCell] at q); exact q
      have mx1_0 : (w4.alloc (.cells #[.slice A2 d.length c2, .int .i64 ps, .bool pp, .int .i64 (t : Int), .bool tp, .int .i64 pd] 24)).cell? ⟨w4.heap.size, 0, none⟩ = some (.slice A2 d.length c2) := cell_of_row _ _ 0 _ _ _ rx
      have mx1_1 : (w4.alloc (.cells #[.slice A2 d.length c2, .int .i64 ps, .bool pp, .int .i64 (t : Int), .bool tp, .int .i64 pd] 24)).cell? ⟨w4.heap.size, 1, none⟩ = some (.int .i64 ps) := cell_of_row _ _ 1 _ _ _ rx
      have mx1_2 : (w4.alloc (.cells #[.slice A2 d.length c2, .int .i64 ps, .bool pp, .int .i64 (t : Int), .bool tp, .int .i64 pd] 24)).cell? ⟨w4.heap.size, 2, none⟩ = some (.bool pp) := cell_of_row _ _ 2 _ _ _ rx
      have mx1_3 : (w4.alloc (.cells #[.slice A2 d.length c2, .int .i64 ps, .bool pp, .int .i64 (t : Int), .bool tp, .int .i64 pd] 24)).cell? ⟨w4.heap.size, 3, none⟩ = some (.int .i64 (t : Int)) := cell_of_row _ _ 3 _ _ _ rx
      have mx1_4 : (w4.alloc (.cells #[.slice A2 d.length c2, .int .i64 ps, .bool pp, .int .i64 (t : Int), .bool tp, .int .i64 pd] 24)).cell? ⟨w4.heap.size, 4, none⟩ = some (.bool tp) := cell_of_row _ _ 4 _ _ _ rx
      have mx1_5 : (w4.alloc (.cells #[.slice A2 d.length c2, .int .i64 ps, .bool pp, .int .i64 (t : Int), .bool tp, .int .i64 pd] 24)).cell? ⟨w4.heap.size, 5, none⟩ = some (.int .i64 pd) := cell_of_row _ _ 5 _ _ _ rx
      go_upto_region 4 with fail
      clear ma4_0 ma4_1 ma4_2 ma4_3 ma4_4 ma4_5 mr3_0 mr3_1 mr3_2 mr3_3 mr3_4 mr3_5
      generalize (w4.alloc (.cells #[.slice A2 d.length c2, .int .i64 ps, .bool pp, .int .i64 (t : Int), .bool tp, .int .i64 pd] 24)) = u5 at *
      have hn6 : Below u5.heap.size u5 u5.drew := below_drewN (Below.refl _ _) 1
      have s6 : u5.heap.size ≤ u5.drew.heap.size := Nat.le_refl _
      clear ma5_0 ma5_1 ma5_2 ma5_3 ma5_4 ma5_5
      clear mr4_0 mr4_1 mr4_2 mr4_3 mr4_4 mr4_5
      clear mx1_0 mx1_1 mx1_2 mx1_3 mx1_4 mx1_5
      replace ra := rowKeep ra hn6
      replace rr := rowKeep rr hn6
      replace rx := rowKeep rx hn6
      replace o2 := o2.below hn6
      replace h := h.below hn6 (by omega)
      replace hB := below_later hB hn6 (by omega)
      have ma6_0 : u5.drew.cell? ⟨w.heap.size, 0, none⟩ = some (.slice (some ⟨b, o, none⟩) d.length c) := cell_of_row _ _ 0 _ _ _ ra
      have ma6_1 : u5.drew.cell? ⟨w.heap.size, 1, none⟩ = some (.int .i64 ps) := cell_of_row _ _ 1 _ _ _ ra
      have ma6_2 : u5.drew.cell? ⟨w.heap.size, 2, none⟩ = some (.bool pp) := cell_of_row _ _ 2 _ _ _ ra
      have ma6_3 : u5.drew.cell? ⟨w.heap.size, 3, none⟩ = some (.int .i64 (t : Int)) := cell_of_row _ _ 3 _ _ _ ra
      have ma6_4 : u5.drew.cell? ⟨w.heap.size, 4, none⟩ = some (.bool tp) := cell_of_row _ _ 4 _ _ _ ra
      have ma6_5 : u5.drew.cell? ⟨w.heap.size, 5, none⟩ = some (.int .i64 pd) := cell_of_row _ _ 5 _ _ _ ra
      have mr5_0 : u5.drew.cell? ⟨w.heap.size + 1, 0, none⟩ = some (.slice none 0 0) := cell_of_row _ _ 0 _ _ _ rr
      have mr5_1 : u5.drew.cell? ⟨w.heap.size + 1, 1, none⟩ = some (.int .i64 0) := cell_of_row _ _ 1 _ _ _ rr
      have mr5_2 : u5.drew.cell? ⟨w.heap.size + 1, 2, none⟩ = some (.bool false) := cell_of_row _ _ 2 _ _ _ rr
      have mr5_3 : u5.drew.cell? ⟨w.heap.size + 1, 3, none⟩ = some (.int .i64 0) := cell_of_row _ _ 3 _ _ _ rr
      have mr5_4 : u5.drew.cell? ⟨w.heap.size + 1, 4, none⟩ = some (.bool false) := cell_of_row _ _ 4 _ _ _ rr
      have mr5_5 : u5.drew.cell? ⟨w.heap.size + 1, 5, none⟩ = some (.int .i64 0) := cell_of_row _ _ 5 _ _ _ rr
      have mx2_0 : u5.drew.cell? ⟨w4.heap.size, 0, none⟩ = some (.slice A2 d.length c2) := cell_of_row _ _ 0 _ _ _ rx
      have mx2_1 : u5.drew.cell? ⟨w4.heap.size, 1, none⟩ = some (.int .i64 ps) := cell_of_row _ _ 1 _ _ _ rx
      have mx2_2 : u5.drew.cell? ⟨w4.heap.size, 2, none⟩ = some (.bool pp) := cell_of_row _ _ 2 _ _ _ rx
      have mx2_3 : u5.drew.cell? ⟨w4.heap.size, 3, none⟩ = some (.int .i64 (t : Int)) := cell_of_row _ _ 3 _ _ _ rx
      have mx2_4 : u5.drew.cell? ⟨w4.heap.size, 4, none⟩ = some (.bool tp) := cell_of_row _ _ 4 _ _ _ rx
      have mx2_5 : u5.drew.cell? ⟨w4.heap.size, 5, none⟩ = some (.int .i64 pd) := cell_of_row _ _ 5 _ _ _ rx
      clear hn6
      refine wp_region_noPanic ?_
      refine wp_region_held_drew (S := fun w' => w'.cell? ⟨w.heap.size, 0, none⟩ = some (.slice (some ⟨b, o, none⟩) d.length c) ∧ w'.cell? ⟨w.heap.size, 1, none⟩ = some (.int .i64 ps) ∧ w'.cell? ⟨w.heap.size, 2, none⟩ = some (.bool pp) ∧ w'.cell? ⟨w.heap.size, 3, none⟩ = some (.int .i64 (t : Int)) ∧ w'.cell? ⟨w.heap.size, 4, none⟩ = some (.bool tp) ∧ w'.cell? ⟨w.heap.size, 5, none⟩ = some (.int .i64 pd)) (by kernel_rfl) ⟨ma6_0, ma6_1, ma6_2, ma6_3, ma6_4, ma6_5⟩ (fun hHeld => ?_)
      generalize u5.drew = u6 at *
      refine wpAnyH_take (i := 0) (v := ?_) rfl (by kernel_rfl) (by kernel_rfl) (by kernel_rfl) (fun _ _ _ h => h) (Or.inl ⟨by rfl, ?_⟩) (by assumption) ?_
      rotate_left
      · (intro wz hSw; (try dsimp only at hSw); go_simp; try with_reducible rfl)
      simp only [Act.put, List.getElem_toArray, List.getElem_cons_zero, List.getElem_cons_succ, List.setIfInBounds_toArray, List.set_cons_zero, List.set_cons_succ]
      refine wpAnyH_take (i := 1) (v := ?_) rfl (by kernel_rfl) (by kernel_rfl) (by kernel_rfl) (fun _ _ _ h => h) (Or.inl ⟨by rfl, ?_⟩) (by assumption) ?_
      rotate_left
      · (intro wz hSw; (try dsimp only at hSw); go_simp; try with_reducible rfl)
      simp only [Act.put, List.getElem_toArray, List.getElem_cons_zero, List.getElem_cons_succ, List.setIfInBounds_toArray, List.set_cons_zero, List.set_cons_succ]
      refine wpAnyH_take (i := 2) (v := ?_) rfl (by kernel_rfl) (by kernel_rfl) (by kernel_rfl) (fun _ _ _ h => h) (Or.inl ⟨by rfl, ?_⟩) (by assumption) ?_
      rotate_left
      · (intro wz hSw; (try dsimp only at hSw); go_simp; try with_reducible rfl)
      simp only [Act.put, List.getElem_toArray, List.getElem_cons_zero, List.getElem_cons_succ, List.setIfInBounds_toArray, List.set_cons_zero, List.set_cons_succ]
      refine wpAnyH_take (i := 3) (v := ?_) rfl (by kernel_rfl) (by kernel_rfl) (by kernel_rfl) (fun _ _ _ h => h) (Or.inl ⟨by rfl, ?_⟩) (by assumption) ?_
      rotate_left
      · (intro wz hSw; (try dsimp only at hSw); go_simp; try with_reducible rfl)
      simp only [Act.put, List.getElem_toArray, List.getElem_cons_zero, List.getElem_cons_succ, List.setIfInBounds_toArray, List.set_cons_zero, List.set_cons_succ]
      refine wpAnyH_take (i := 4) (v := ?_) rfl (by kernel_rfl) (by kernel_rfl) (by kernel_rfl) (fun _ _ _ h => h) (Or.inl ⟨by rfl, ?_⟩) (by assumption) ?_
      rotate_left
      · (intro wz hSw; (try dsimp only at hSw); go_simp; try with_reducible rfl)
      simp only [Act.put, List.getElem_toArray, List.getElem_cons_zero, List.getElem_cons_succ, List.setIfInBounds_toArray, List.set_cons_zero, List.set_cons_succ]
      refine wpAnyH_take (i := 5) (v := ?_) rfl (by kernel_rfl) (by kernel_rfl) (by kernel_rfl) (fun _ _ _ h => h) (Or.inl ⟨by rfl, ?_⟩) (by assumption) ?_
      rotate_left
      · (intro wz hSw; (try dsimp only at hSw); go_simp; try with_reducible rfl)
      simp only [Act.put, List.getElem_toArray, List.getElem_cons_zero, List.getElem_cons_succ, List.setIfInBounds_toArray, List.set_cons_zero, List.set_cons_succ]
      refine wpAnyH_take (i := 7) (v := ?_) rfl (by kernel_rfl) (by kernel_rfl) (by kernel_rfl) (fun _ _ _ h => h) (Or.inl ⟨by rfl, ?_⟩) (by assumption) ?_
      rotate_left
      · (intro wz hSw; (try dsimp only at hSw); go_simp; try with_reducible rfl)
      simp only [Act.put, List.getElem_toArray, List.getElem_cons_zero, List.getElem_cons_succ, List.setIfInBounds_toArray, List.set_cons_zero, List.set_cons_succ]
      refine wpAnyH_take (i := 8) (v := ?_) rfl (by kernel_rfl) (by kernel_rfl) (by kernel_rfl) (fun _ _ _ h => h) (Or.inl ⟨by rfl, ?_⟩) (by assumption) ?_
      rotate_left
      · (intro wz hSw; (try dsimp only at hSw); go_simp; try with_reducible rfl)
      simp only [Act.put, List.getElem_toArray, List.getElem_cons_zero, List.getElem_cons_succ, List.setIfInBounds_toArray, List.set_cons_zero, List.set_cons_succ]
      refine wpAnyH_ready (rs := [6]) (by kernel_rfl) (by simp) ?_
      refine AllReadyH.cons rfl (fun K hK => ?_) ?_
      · obtain ⟨hx0, hx1⟩ := h.ans_c t ht
        rw [HDT.out] at hx0 hx1
        simp only at hx0 hx1
        go_simp
        clear hx0 hx1
        refine hK.out _ _ ⟨ma6_0, ma6_1, ma6_2, ma6_3, ma6_4, ma6_5⟩ (fun hHeld => ?_)
        clear hK K
        try simp only [Act.put, List.getElem_toArray, List.getElem_cons_zero, List.getElem_cons_succ, List.setIfInBounds_toArray, List.set_cons_zero, List.set_cons_succ]
        refine wpAnyH_take (i := 9) (v := ?_) rfl (by kernel_rfl) (by kernel_rfl) (by kernel_rfl) (fun _ _ _ h => h) (Or.inl ⟨by rfl, ?_⟩) (by assumption) ?_
        rotate_left
        · (intro wz hSw; (try dsimp only at hSw); go_simp; try with_reducible rfl)
        simp only [Act.put, List.getElem_toArray, List.getElem_cons_zero, List.getElem_cons_succ, List.setIfInBounds_toArray, List.set_cons_zero, List.set_cons_succ]
        refine wpAnyH_done (by kernel_rfl) ?_ _
        refine NoPanic.normal ?_
        have z7_0 := frzRow rr 0
        have z7_1 := frzRow rr 1
        have z7_2 := frzRow rr 2
        have z7_3 := frzRow rr 3
        have z7_4 := frzRow rr 4
        have z7_5 := frzRow rr 5
        replace ra := rowSet (rowSet (rowSet (rowSet (rowSet (rowSet (ra) ⟨w.heap.size + 1, 0, none⟩ (.slice A2 d.length c2) (by show _ ≠ w.heap.size + 1; omega)) ⟨w.heap.size + 1, 1, none⟩ (.int .i64 ps) (by show _ ≠ w.heap.size + 1; omega)) ⟨w.heap.size + 1, 2, none⟩ (.bool pp) (by show _ ≠ w.heap.size + 1; omega)) ⟨w.heap.size + 1, 3, none⟩ (.int .i64 (t : Int)) (by show _ ≠ w.heap.size + 1; omega)) ⟨w.heap.size + 1, 4, none⟩ (.bool tp) (by show _ ≠ w.heap.size + 1; omega)) ⟨w.heap.size + 1, 5, none⟩ (.int .i64 pd) (by show _ ≠ w.heap.size + 1; omega)
        replace rx := rowSet (rowSet (rowSet (rowSet (rowSet (rowSet (rx) ⟨w.heap.size + 1, 0, none⟩ (.slice A2 d.length c2) (by show _ ≠ w.heap.size + 1; omega)) ⟨w.heap.size + 1, 1, none⟩ (.int .i64 ps) (by show _ ≠ w.heap.size + 1; omega)) ⟨w.heap.size + 1, 2, none⟩ (.bool pp) (by show _ ≠ w.heap.size + 1; omega)) ⟨w.heap.size + 1, 3, none⟩ (.int .i64 (t : Int)) (by show _ ≠ w.heap.size + 1; omega)) ⟨w.heap.size + 1, 4, none⟩ (.bool tp) (by show _ ≠ w.heap.size + 1; omega)) ⟨w.heap.size + 1, 5, none⟩ (.int .i64 pd) (by show _ ≠ w.heap.size + 1; omega)
        replace rr := put5 (put4 (put3 (put2 (put1 (put0 (rr) (.slice A2 d.length c2)) (.int .i64 ps)) (.bool pp)) (.int .i64 (t : Int))) (.bool tp)) (.int .i64 pd)
        replace o2 := ((((((o2).setOther ⟨w.heap.size + 1, 0, none⟩ (.slice A2 d.length c2) (by show w.heap.size + 1 < _ ∨ _ ≤ w.heap.size + 1; omega)).setOther ⟨w.heap.size + 1, 1, none⟩ (.int .i64 ps) (by show w.heap.size + 1 < _ ∨ _ ≤ w.heap.size + 1; omega)).setOther ⟨w.heap.size + 1, 2, none⟩ (.bool pp) (by show w.heap.size + 1 < _ ∨ _ ≤ w.heap.size + 1; omega)).setOther ⟨w.heap.size + 1, 3, none⟩ (.int .i64 (t : Int)) (by show w.heap.size + 1 < _ ∨ _ ≤ w.heap.size + 1; omega)).setOther ⟨w.heap.size + 1, 4, none⟩ (.bool tp) (by show w.heap.size + 1 < _ ∨ _ ≤ w.heap.size + 1; omega)).setOther ⟨w.heap.size + 1, 5, none⟩ (.int .i64 pd) (by show w.heap.size + 1 < _ ∨ _ ≤ w.heap.size + 1; omega)
        replace h := ((((((h).setOther ⟨w.heap.size + 1, 0, none⟩ (.slice A2 d.length c2) (by show _ ≤ w.heap.size + 1; omega)).setOther ⟨w.heap.size + 1, 1, none⟩ (.int .i64 ps) (by show _ ≤ w.heap.size + 1; omega)).setOther ⟨w.heap.size + 1, 2, none⟩ (.bool pp) (by show _ ≤ w.heap.size + 1; omega)).setOther ⟨w.heap.size + 1, 3, none⟩ (.int .i64 (t : Int)) (by show _ ≤ w.heap.size + 1; omega)).setOther ⟨w.heap.size + 1, 4, none⟩ (.bool tp) (by show _ ≤ w.heap.size + 1; omega)).setOther ⟨w.heap.size + 1, 5, none⟩ (.int .i64 pd) (by show _ ≤ w.heap.size + 1; omega)
        replace hB := ((((((hB).setCell (p := ⟨w.heap.size + 1, 0, none⟩) (by show _ ≤ w.heap.size + 1; omega) (.slice A2 d.length c2)).setCell (p := ⟨w.heap.size + 1, 1, none⟩) (by show _ ≤ w.heap.size + 1; omega) (.int .i64 ps)).setCell (p := ⟨w.heap.size + 1, 2, none⟩) (by show _ ≤ w.heap.size + 1; omega) (.bool pp)).setCell (p := ⟨w.heap.size + 1, 3, none⟩) (by show _ ≤ w.heap.size + 1; omega) (.int .i64 (t : Int))).setCell (p := ⟨w.heap.size + 1, 4, none⟩) (by show _ ≤ w.heap.size + 1; omega) (.bool tp)).setCell (p := ⟨w.heap.size + 1, 5, none⟩) (by show _ ≤ w.heap.size + 1; omega) (.int .i64 pd)
        have s7 : u6.heap.size ≤ ((((((u6.setCell ⟨w.heap.size + 1, 0, none⟩ (.slice A2 d.length c2)).setCell ⟨w.heap.size + 1, 1, none⟩ (.int .i64 ps)).setCell ⟨w.heap.size + 1, 2, none⟩ (.bool pp)).setCell ⟨w.heap.size + 1, 3, none⟩ (.int .i64 (t : Int))).setCell ⟨w.heap.size + 1, 4, none⟩ (.bool tp)).setCell ⟨w.heap.size + 1, 5, none⟩ (.int .i64 pd)).heap.size := by simp only [World.size_setCell]; exact Nat.le_refl _
        have ma7_0 : ((((((u6.setCell ⟨w.heap.size + 1, 0, none⟩ (.slice A2 d.length c2)).setCell ⟨w.heap.size + 1, 1, none⟩ (.int .i64 ps)).setCell ⟨w.heap.size + 1, 2, none⟩ (.bool pp)).setCell ⟨w.heap.size + 1, 3, none⟩ (.int .i64 (t : Int))).setCell ⟨w.heap.size + 1, 4, none⟩ (.bool tp)).setCell ⟨w.heap.size + 1, 5, none⟩ (.int .i64 pd)).cell? ⟨w.heap.size, 0, none⟩ = some (.slice (some ⟨b, o, none⟩) d.length c) := cell_of_row _ _ 0 _ _ _ ra
        have ma7_1 : ((((((u6.setCell ⟨w.heap.size + 1, 0, none⟩ (.slice A2 d.length c2)).setCell ⟨w.heap.size + 1, 1, none⟩ (.int .i64 ps)).setCell ⟨w.heap.size + 1, 2, none⟩ (.bool pp)).setCell ⟨w.heap.size + 1, 3, none⟩ (.int .i64 (t : Int))).setCell ⟨w.heap.size + 1, 4, none⟩ (.bool tp)).setCell ⟨w.heap.size + 1, 5, none⟩ (.int .i64 pd)).cell? ⟨w.heap.size, 1, none⟩ = some (.int .i64 ps) := cell_of_row _ _ 1 _ _ _ ra
        have ma7_2 : ((((((u6.setCell ⟨w.heap.size + 1, 0, none⟩ (.slice A2 d.length c2)).setCell ⟨w.heap.size + 1, 1, none⟩ (.int .i64 ps)).setCell ⟨w.heap.size + 1, 2, none⟩ (.bool pp)).setCell ⟨w.heap.size + 1, 3, none⟩ (.int .i64 (t : Int))).setCell ⟨w.heap.size + 1, 4, none⟩ (.bool tp)).setCell ⟨w.heap.size + 1, 5, none⟩ (.int .i64 pd)).cell? ⟨w.heap.size, 2, none⟩ = some (.bool pp) := cell_of_row _ _ 2 _ _ _ ra
        have ma7_3 : ((((((u6.setCell ⟨w.heap.size + 1, 0, none⟩ (.slice A2 d.length c2)).setCell ⟨w.heap.size + 1, 1, none⟩ (.int .i64 ps)).setCell ⟨w.heap.size + 1, 2, none⟩ (.bool pp)).setCell ⟨w.heap.size + 1, 3, none⟩ (.int .i64 (t : Int))).setCell ⟨w.heap.size + 1, 4, none⟩ (.bool tp)).setCell ⟨w.heap.size + 1, 5, none⟩ (.int .i64 pd)).cell? ⟨w.heap.size, 3, none⟩ = some (.int .i64 (t : Int)) := cell_of_row _ _ 3 _ _ _ ra
        have ma7_4 : ((((((u6.setCell ⟨w.heap.size + 1, 0, none⟩ (.slice A2 d.length c2)).setCell ⟨w.heap.size + 1, 1, none⟩ (.int .i64 ps)).setCell ⟨w.heap.size + 1, 2, none⟩ (.bool pp)).setCell ⟨w.heap.size + 1, 3, none⟩ (.int .i64 (t : Int))).setCell ⟨w.heap.size + 1, 4, none⟩ (.bool tp)).setCell ⟨w.heap.size + 1, 5, none⟩ (.int .i64 pd)).cell? ⟨w.heap.size, 4, none⟩ = some (.bool tp) := cell_of_row _ _ 4 _ _ _ ra
        have ma7_5 : ((((((u6.setCell ⟨w.heap.size + 1, 0, none⟩ (.slice A2 d.length c2)).setCell ⟨w.heap.size + 1, 1, none⟩ (.int .i64 ps)).setCell ⟨w.heap.size + 1, 2, none⟩ (.bool pp)).setCell ⟨w.heap.size + 1, 3, none⟩ (.int .i64 (t : Int))).setCell ⟨w.heap.size + 1, 4, none⟩ (.bool tp)).setCell ⟨w.heap.size + 1, 5, none⟩ (.int .i64 pd)).cell? ⟨w.heap.size, 5, none⟩ = some (.int .i64 pd) := cell_of_row _ _ 5 _ _ _ ra
        have mr6_0 : ((((((u6.setCell ⟨w.heap.size + 1, 0, none⟩ (.slice A2 d.length c2)).setCell ⟨w.heap.size + 1, 1, none⟩ (.int .i64 ps)).setCell ⟨w.heap.size + 1, 2, none⟩ (.bool pp)).setCell ⟨w.heap.size + 1, 3, none⟩ (.int .i64 (t : Int))).setCell ⟨w.heap.size + 1, 4, none⟩ (.bool tp)).setCell ⟨w.heap.size + 1, 5, none⟩ (.int .i64 pd)).cell? ⟨w.heap.size + 1, 0, none⟩ = some (.slice A2 d.length c2) := cell_of_row _ _ 0 _ _ _ rr
        have mr6_1 : ((((((u6.setCell ⟨w.heap.size + 1, 0, none⟩ (.slice A2 d.length c2)).setCell ⟨w.heap.size + 1, 1, none⟩ (.int .i64 ps)).setCell ⟨w.heap.size + 1, 2, none⟩ (.bool pp)).setCell ⟨w.heap.size + 1, 3, none⟩ (.int .i64 (t : Int))).setCell ⟨w.heap.size + 1, 4, none⟩ (.bool tp)).setCell ⟨w.heap.size + 1, 5, none⟩ (.int .i64 pd)).cell? ⟨w.heap.size + 1, 1, none⟩ = some (.int .i64 ps) := cell_of_row _ _ 1 _ _ _ rr
        have mr6_2 : ((((((u6.setCell ⟨w.heap.size + 1, 0, none⟩ (.slice A2 d.length c2)).setCell ⟨w.heap.size + 1, 1, none⟩ (.int .i64 ps)).setCell ⟨w.heap.size + 1, 2, none⟩ (.bool pp)).setCell ⟨w.heap.size + 1, 3, none⟩ (.int .i64 (t : Int))).setCell ⟨w.heap.size + 1, 4, none⟩ (.bool tp)).setCell ⟨w.heap.size + 1, 5, none⟩ (.int .i64 pd)).cell? ⟨w.heap.size + 1, 2, none⟩ = some (.bool pp) := cell_of_row _ _ 2 _ _ _ rr
        have mr6_3 : ((((((u6.setCell ⟨w.heap.size + 1, 0, none⟩ (.slice A2 d.length c2)).setCell ⟨w.heap.size + 1, 1, none⟩ (.int .i64 ps)).setCell ⟨w.heap.size + 1, 2, none⟩ (.bool pp)).setCell ⟨w.heap.size + 1, 3, none⟩ (.int .i64 (t : Int))).setCell ⟨w.heap.size + 1, 4, none⟩ (.bool tp)).setCell ⟨w.heap.size + 1, 5, none⟩ (.int .i64 pd)).cell? ⟨w.heap.size + 1, 3, none⟩ = some (.int .i64 (t : Int)) := cell_of_row _ _ 3 _ _ _ rr
        have mr6_4 : ((((((u6.setCell ⟨w.heap.size + 1, 0, none⟩ (.slice A2 d.length c2)).setCell ⟨w.heap.size + 1, 1, none⟩ (.int .i64 ps)).setCell ⟨w.heap.size + 1, 2, none⟩ (.bool pp)).setCell ⟨w.heap.size + 1, 3, none⟩ (.int .i64 (t : Int))).setCell ⟨w.heap.size + 1, 4, none⟩ (.bool tp)).setCell ⟨w.heap.size + 1, 5, none⟩ (.int .i64 pd)).cell? ⟨w.heap.size + 1, 4, none⟩ = some (.bool tp) := cell_of_row _ _ 4 _ _ _ rr
        have mr6_5 : ((((((u6.setCell ⟨w.heap.size + 1, 0, none⟩ (.slice A2 d.length c2)).setCell ⟨w.heap.size + 1, 1, none⟩ (.int .i64 ps)).setCell ⟨w.heap.size + 1, 2, none⟩ (.bool pp)).setCell ⟨w.heap.size + 1, 3, none⟩ (.int .i64 (t : Int))).setCell ⟨w.heap.size + 1, 4, none⟩ (.bool tp)).setCell ⟨w.heap.size + 1, 5, none⟩ (.int .i64 pd)).cell? ⟨w.heap.size + 1, 5, none⟩ = some (.int .i64 pd) := cell_of_row _ _ 5 _ _ _ rr
        have mx3_0 : ((((((u6.setCell ⟨w.heap.size + 1, 0, none⟩ (.slice A2 d.length c2)).setCell ⟨w.heap.size + 1, 1, none⟩ (.int .i64 ps)).setCell ⟨w.heap.size + 1, 2, none⟩ (.bool pp)).setCell ⟨w.heap.size + 1, 3, none⟩ (.int .i64 (t : Int))).setCell ⟨w.heap.size + 1, 4, none⟩ (.bool tp)).setCell ⟨w.heap.size + 1, 5, none⟩ (.int .i64 pd)).cell? ⟨w4.heap.size, 0, none⟩ = some (.slice A2 d.length c2) := cell_of_row _ _ 0 _ _ _ rx
        have mx3_1 : ((((((u6.setCell ⟨w.heap.size + 1, 0, none⟩ (.slice A2 d.length c2)).setCell ⟨w.heap.size + 1, 1, none⟩ (.int .i64 ps)).setCell ⟨w.heap.size + 1, 2, none⟩ (.bool pp)).setCell ⟨w.heap.size + 1, 3, none⟩ (.int .i64 (t : Int))).setCell ⟨w.heap.size + 1, 4, none⟩ (.bool tp)).setCell ⟨w.heap.size + 1, 5, none⟩ (.int .i64 pd)).cell? ⟨w4.heap.size, 1, none⟩ = some (.int .i64 ps) := cell_of_row _ _ 1 _ _ _ rx
        have mx3_2 : ((((((u6.setCell ⟨w.heap.size + 1, 0, none⟩ (.slice A2 d.length c2)).setCell ⟨w.heap.size + 1, 1, none⟩ (.int .i64 ps)).setCell ⟨w.heap.size + 1, 2, none⟩ (.bool pp)).setCell ⟨w.heap.size + 1, 3, none⟩ (.int .i64 (t : Int))).setCell ⟨w.heap.size + 1, 4, none⟩ (.bool tp)).setCell ⟨w.heap.size + 1, 5, none⟩ (.int .i64 pd)).cell? ⟨w4.heap.size, 2, none⟩ = some (.bool pp) := cell_of_row _ _ 2 _ _ _ rx
        have mx3_3 : ((((((u6.setCell ⟨w.heap.size + 1, 0, none⟩ (.slice A2 d.length c2)).setCell ⟨w.heap.size + 1, 1, none⟩ (.int .i64 ps)).setCell ⟨w.heap.size + 1, 2, none⟩ (.bool pp)).setCell ⟨w.heap.size + 1, 3, none⟩ (.int .i64 (t : Int))).setCell ⟨w.heap.size + 1, 4, none⟩ (.bool tp)).setCell ⟨w.heap.size + 1, 5, none⟩ (.int .i64 pd)).cell? ⟨w4.heap.size, 3, none⟩ = some (.int .i64 (t : Int)) := cell_of_row _ _ 3 _ _ _ rx
        have mx3_4 : ((((((u6.setCell ⟨w.heap.size + 1, 0, none⟩ (.slice A2 d.length c2)).setCell ⟨w.heap.size + 1, 1, none⟩ (.int .i64 ps)).setCell ⟨w.heap.size + 1, 2, none⟩ (.bool pp)).setCell ⟨w.heap.size + 1, 3, none⟩ (.int .i64 (t : Int))).setCell ⟨w.heap.size + 1, 4, none⟩ (.bool tp)).setCell ⟨w.heap.size + 1, 5, none⟩ (.int .i64 pd)).cell? ⟨w4.heap.size, 4, none⟩ = some (.bool tp) := cell_of_row _ _ 4 _ _ _ rx
        have mx3_5 : ((((((u6.setCell ⟨w.heap.size + 1, 0, none⟩ (.slice A2 d.length c2)).setCell ⟨w.heap.size + 1, 1, none⟩ (.int .i64 ps)).setCell ⟨w.heap.size + 1, 2, none⟩ (.bool pp)).setCell ⟨w.heap.size + 1, 3, none⟩ (.int .i64 (t : Int))).setCell ⟨w.heap.size + 1, 4, none⟩ (.bool tp)).setCell ⟨w.heap.size + 1, 5, none⟩ (.int .i64 pd)).cell? ⟨w4.heap.size, 5, none⟩ = some (.int .i64 pd) := cell_of_row _ _ 5 _ _ _ rx
        go_wp2_with fail
        refine bodyPost_ret (v := .tuple #[.agg #[.slice A2 d.length c2, .int .i64 ps, .bool pp, .int .i64 (t : Int), .bool tp, .int .i64 pd], .int .i64 0, .bool false]) (by simp only [results, Try.results28]; simp [go_sem, mr6_0, mr6_1, mr6_2, mr6_3, mr6_4, mr6_5]) rfl ?_
        have HE : (atake ⟨d, ps, pp, (t : Int), tp, pd⟩).ents = d := by rw [HP.out.1]
        have HF : takeV ⟨d, ps, pp, (t : Int), tp, pd⟩ = fun y => .tuple #[ansR ps pp (t : Int) tp pd y, .int .i64 0, .bool false] := by unfold takeV; rw [HP.out.1, HP.out.2.1, HP.out.2.2]; rfl
        rw [HE, HF]
        exact RetF.of (f := fun y => .tuple #[ansR ps pp (t : Int) tp pd y, .int .i64 0, .bool false]) o2 (by omega) (by omega) hB
      exact AllReadyH.nil
end Go.Proofs.Ythkiollagnjfaaa
