/-
  Walk: PostAnswer of the program.
-/
import Derived.Test.YthkiollagnjfaaaN8
namespace Go.Proofs.Ythkiollagnjfaaa
open Go.RowKit
set_option linter.unusedSimpArgs false
set_option linter.unusedVariables false
set_option maxHeartbeats 4000000 in
theorem implPostAnswer_any (A : Option Addr) (n c B : Nat) (d : List (Int × Bool)) (ps : Int) (pp : Bool) (tk : Int) (tp : Bool) (pd : Int) (v : Int) (w : World) (h : Sees w B 2 A n c (ansC d)) (hle : B ≤ w.heap.size) :
    Calls Try.prog 24 #[.agg #[.slice A n c, .int .i64 ps, .bool pp, .int .i64 tk, .bool tp, .int .i64 pd], .int .i64 v] w (RetF w 46 2 (apost ⟨d, ps, pp, tk, tp, pd⟩ v).ents.length (ansC (apost ⟨d, ps, pp, tk, tp, pd⟩ v).ents) (postV ⟨d, ps, pp, tk, tp, pd⟩ v)) := by
  obtain rfl := h.ans
  have hc1 := h.cap
  have hc2 := h.big
  have hB : Below w.heap.size w w := Below.refl _ _
  cases hv : aval ⟨d, ps, pp, tk, tp, pd⟩
  · have HP := Lib.hid (apost_no _ v hv)
    have HV := Lib.hid hv
    clear hv
    have hn1 := below_new w (.cells #[.slice A d.length c, .int .i64 ps, .bool pp, .int .i64 tk, .bool tp, .int .i64 pd] 24)
    replace h := h.below hn1 (by omega)
    replace hB := below_later hB hn1 (by omega)
    clear hn1
    have s1 : w.heap.size < (w.alloc (.cells #[.slice A d.length c, .int .i64 ps, .bool pp, .int .i64 tk, .bool tp, .int .i64 pd] 24)).heap.size := Nat.lt_of_lt_of_eq (Nat.lt_succ_self _) (World.size_alloc _ _).symm
    have ra : (w.alloc (.cells #[.slice A d.length c, .int .i64 ps, .bool pp, .int .i64 tk, .bool tp, .int .i64 pd] 24)).heap[w.heap.size]? = some (.cells #[.slice A d.length c, .int .i64 ps, .bool pp, .int .i64 tk, .bool tp, .int .i64 pd] 24 (0, 0)) := by have q := heap_alloc_new w (.cells #[.slice A d.length c, .int .i64 ps, .bool pp, .int .i64 tk, .bool tp, .int .i64 pd] 24); (try simp only [World.size_alloc, World.size_setCell] at q); exact q
    have ma1_0 : (w.alloc (.cells #[.slice A d.length c, .int .i64 ps, .bool pp, .int .i64 tk, .bool tp, .int .i64 pd] 24)).cell? ⟨w.heap.size, 0, none⟩ = some (.slice A d.length c) := cell_of_row _ _ 0 _ _ _ ra
    have ma1_1 : (w.alloc (.cells #[.slice A d.length c, .int .i64 ps, .bool pp, .int .i64 tk, .bool tp, .int .i64 pd] 24)).cell? ⟨w.heap.size, 1, none⟩ = some (.int .i64 ps) := cell_of_row _ _ 1 _ _ _ ra
    have ma1_2 : (w.alloc (.cells #[.slice A d.length c, .int .i64 ps, .bool pp, .int .i64 tk, .bool tp, .int .i64 pd] 24)).cell? ⟨w.heap.size, 2, none⟩ = some (.bool pp) := cell_of_row _ _ 2 _ _ _ ra
    have ma1_3 : (w.alloc (.cells #[.slice A d.length c, .int .i64 ps, .bool pp, .int .i64 tk, .bool tp, .int .i64 pd] 24)).cell? ⟨w.heap.size, 3, none⟩ = some (.int .i64 tk) := cell_of_row _ _ 3 _ _ _ ra
    have ma1_4 : (w.alloc (.cells #[.slice A d.length c, .int .i64 ps, .bool pp, .int .i64 tk, .bool tp, .int .i64 pd] 24)).cell? ⟨w.heap.size, 4, none⟩ = some (.bool tp) := cell_of_row _ _ 4 _ _ _ ra
    have ma1_5 : (w.alloc (.cells #[.slice A d.length c, .int .i64 ps, .bool pp, .int .i64 tk, .bool tp, .int .i64 pd] 24)).cell? ⟨w.heap.size, 5, none⟩ = some (.int .i64 pd) := cell_of_row _ _ 5 _ _ _ ra
    have hn2 := below_new (w.alloc (.cells #[.slice A d.length c, .int .i64 ps, .bool pp, .int .i64 tk, .bool tp, .int .i64 pd] 24)) (.cells #[.slice none 0 0, .int .i64 0, .bool false, .int .i64 0, .bool false, .int .i64 0] 24)
    replace ra := rowKeep ra hn2
    replace h := h.below hn2 (by omega)
    replace hB := below_later hB hn2 (by omega)
    have ma2_0 : ((w.alloc (.cells #[.slice A d.length c, .int .i64 ps, .bool pp, .int .i64 tk, .bool tp, .int .i64 pd] 24)).alloc (.cells #[.slice none 0 0, .int .i64 0, .bool false, .int .i64 0, .bool false, .int .i64 0] 24)).cell? ⟨w.heap.size, 0, none⟩ = some (.slice A d.length c) := cell_of_row _ _ 0 _ _ _ ra
    have ma2_1 : ((w.alloc (.cells #[.slice A d.length c, .int .i64 ps, .bool pp, .int .i64 tk, .bool tp, .int .i64 pd] 24)).alloc (.cells #[.slice none 0 0, .int .i64 0, .bool false, .int .i64 0, .bool false, .int .i64 0] 24)).cell? ⟨w.heap.size, 1, none⟩ = some (.int .i64 ps) := cell_of_row _ _ 1 _ _ _ ra
    have ma2_2 : ((w.alloc (.cells #[.slice A d.length c, .int .i64 ps, .bool pp, .int .i64 tk, .bool tp, .int .i64 pd] 24)).alloc (.cells #[.slice none 0 0, .int .i64 0, .bool false, .int .i64 0, .bool false, .int .i64 0] 24)).cell? ⟨w.heap.size, 2, none⟩ = some (.bool pp) := cell_of_row _ _ 2 _ _ _ ra
    have ma2_3 : ((w.alloc (.cells #[.slice A d.length c, .int .i64 ps, .bool pp, .int .i64 tk, .bool tp, .int .i64 pd] 24)).alloc (.cells #[.slice none 0 0, .int .i64 0, .bool false, .int .i64 0, .bool false, .int .i64 0] 24)).cell? ⟨w.heap.size, 3, none⟩ = some (.int .i64 tk) := cell_of_row _ _ 3 _ _ _ ra
    have ma2_4 : ((w.alloc (.cells #[.slice A d.length c, .int .i64 ps, .bool pp, .int .i64 tk, .bool tp, .int .i64 pd] 24)).alloc (.cells #[.slice none 0 0, .int .i64 0, .bool false, .int .i64 0, .bool false, .int .i64 0] 24)).cell? ⟨w.heap.size, 4, none⟩ = some (.bool tp) := cell_of_row _ _ 4 _ _ _ ra
    have ma2_5 : ((w.alloc (.cells #[.slice A d.length c, .int .i64 ps, .bool pp, .int .i64 tk, .bool tp, .int .i64 pd] 24)).alloc (.cells #[.slice none 0 0, .int .i64 0, .bool false, .int .i64 0, .bool false, .int .i64 0] 24)).cell? ⟨w.heap.size, 5, none⟩ = some (.int .i64 pd) := cell_of_row _ _ 5 _ _ _ ra
    clear hn2
    have s2 : (w.alloc (.cells #[.slice A d.length c, .int .i64 ps, .bool pp, .int .i64 tk, .bool tp, .int .i64 pd] 24)).heap.size < ((w.alloc (.cells #[.slice A d.length c, .int .i64 ps, .bool pp, .int .i64 tk, .bool tp, .int .i64 pd] 24)).alloc (.cells #[.slice none 0 0, .int .i64 0, .bool false, .int .i64 0, .bool false, .int .i64 0] 24)).heap.size := Nat.lt_of_lt_of_eq (Nat.lt_succ_self _) (World.size_alloc _ _).symm
    have rr : ((w.alloc (.cells #[.slice A d.length c, .int .i64 ps, .bool pp, .int .i64 tk, .bool tp, .int .i64 pd] 24)).alloc (.cells #[.slice none 0 0, .int .i64 0, .bool false, .int .i64 0, .bool false, .int .i64 0] 24)).heap[w.heap.size + 1]? = some (.cells #[.slice none 0 0, .int .i64 0, .bool false, .int .i64 0, .bool false, .int .i64 0] 24 (0, 0)) := by have q := heap_alloc_new (w.alloc (.cells #[.slice A d.length c, .int .i64 ps, .bool pp, .int .i64 tk, .bool tp, .int .i64 pd] 24)) (.cells #[.slice none 0 0, .int .i64 0, .bool false, .int .i64 0, .bool false, .int .i64 0] 24); (try simp only [World.size_alloc, World.size_setCell] at q); exact q
    have mr1_0 : ((w.alloc (.cells #[.slice A d.length c, .int .i64 ps, .bool pp, .int .i64 tk, .bool tp, .int .i64 pd] 24)).alloc (.cells #[.slice none 0 0, .int .i64 0, .bool false, .int .i64 0, .bool false, .int .i64 0] 24)).cell? ⟨w.heap.size + 1, 0, none⟩ = some (.slice none 0 0) := cell_of_row _ _ 0 _ _ _ rr
    have mr1_1 : ((w.alloc (.cells #[.slice A d.length c, .int .i64 ps, .bool pp, .int .i64 tk, .bool tp, .int .i64 pd] 24)).alloc (.cells #[.slice none 0 0, .int .i64 0, .bool false, .int .i64 0, .bool false, .int .i64 0] 24)).cell? ⟨w.heap.size + 1, 1, none⟩ = some (.int .i64 0) := cell_of_row _ _ 1 _ _ _ rr
    have mr1_2 : ((w.alloc (.cells #[.slice A d.length c, .int .i64 ps, .bool pp, .int .i64 tk, .bool tp, .int .i64 pd] 24)).alloc (.cells #[.slice none 0 0, .int .i64 0, .bool false, .int .i64 0, .bool false, .int .i64 0] 24)).cell? ⟨w.heap.size + 1, 2, none⟩ = some (.bool false) := cell_of_row _ _ 2 _ _ _ rr
    have mr1_3 : ((w.alloc (.cells #[.slice A d.length c, .int .i64 ps, .bool pp, .int .i64 tk, .bool tp, .int .i64 pd] 24)).alloc (.cells #[.slice none 0 0, .int .i64 0, .bool false, .int .i64 0, .bool false, .int .i64 0] 24)).cell? ⟨w.heap.size + 1, 3, none⟩ = some (.int .i64 0) := cell_of_row _ _ 3 _ _ _ rr
    have mr1_4 : ((w.alloc (.cells #[.slice A d.length c, .int .i64 ps, .bool pp, .int .i64 tk, .bool tp, .int .i64 pd] 24)).alloc (.cells #[.slice none 0 0, .int .i64 0, .bool false, .int .i64 0, .bool false, .int .i64 0] 24)).cell? ⟨w.heap.size + 1, 4, none⟩ = some (.bool false) := cell_of_row _ _ 4 _ _ _ rr
    have mr1_5 : ((w.alloc (.cells #[.slice A d.length c, .int .i64 ps, .bool pp, .int .i64 tk, .bool tp, .int .i64 pd] 24)).alloc (.cells #[.slice none 0 0, .int .i64 0, .bool false, .int .i64 0, .bool false, .int .i64 0] 24)).cell? ⟨w.heap.size + 1, 5, none⟩ = some (.int .i64 0) := cell_of_row _ _ 5 _ _ _ rr
    go_enter Try.func24, Try.ntmps24
    go_wp2_with fail
    clear ma1_0 ma1_1 ma1_2 ma1_3 ma1_4 ma1_5
    generalize (w.alloc (.cells #[.slice A d.length c, .int .i64 ps, .bool pp, .int .i64 tk, .bool tp, .int .i64 pd] 24)) = u1 at *
    generalize (u1.alloc (.cells #[.slice none 0 0, .int .i64 0, .bool false, .int .i64 0, .bool false, .int .i64 0] 24)) = u2 at *
    have q := implAnswersValid_any A d.length c _ d ps pp tk tp pd u2 h (by omega)
    rw [HV.out] at q
    refine q.mono ?_
    clear q
    rintro e w3 ⟨rfl, b3⟩
    have s3 := b3.size
    clear ma2_0 ma2_1 ma2_2 ma2_3 ma2_4 ma2_5
    clear mr1_0 mr1_1 mr1_2 mr1_3 mr1_4 mr1_5
    replace ra := rowKeep ra b3
    replace rr := rowKeep rr b3
    replace h := h.below b3 (by omega)
    replace hB := below_later hB b3 (by omega)
    have ma3_0 : w3.cell? ⟨w.heap.size, 0, none⟩ = some (.slice A d.length c) := cell_of_row _ _ 0 _ _ _ ra
    have ma3_1 : w3.cell? ⟨w.heap.size, 1, none⟩ = some (.int .i64 ps) := cell_of_row _ _ 1 _ _ _ ra
    have ma3_2 : w3.cell? ⟨w.heap.size, 2, none⟩ = some (.bool pp) := cell_of_row _ _ 2 _ _ _ ra
    have ma3_3 : w3.cell? ⟨w.heap.size, 3, none⟩ = some (.int .i64 tk) := cell_of_row _ _ 3 _ _ _ ra
    have ma3_4 : w3.cell? ⟨w.heap.size, 4, none⟩ = some (.bool tp) := cell_of_row _ _ 4 _ _ _ ra
    have ma3_5 : w3.cell? ⟨w.heap.size, 5, none⟩ = some (.int .i64 pd) := cell_of_row _ _ 5 _ _ _ ra
    have mr2_0 : w3.cell? ⟨w.heap.size + 1, 0, none⟩ = some (.slice none 0 0) := cell_of_row _ _ 0 _ _ _ rr
    have mr2_1 : w3.cell? ⟨w.heap.size + 1, 1, none⟩ = some (.int .i64 0) := cell_of_row _ _ 1 _ _ _ rr
    have mr2_2 : w3.cell? ⟨w.heap.size + 1, 2, none⟩ = some (.bool false) := cell_of_row _ _ 2 _ _ _ rr
    have mr2_3 : w3.cell? ⟨w.heap.size + 1, 3, none⟩ = some (.int .i64 0) := cell_of_row _ _ 3 _ _ _ rr
    have mr2_4 : w3.cell? ⟨w.heap.size + 1, 4, none⟩ = some (.bool false) := cell_of_row _ _ 4 _ _ _ rr
    have mr2_5 : w3.cell? ⟨w.heap.size + 1, 5, none⟩ = some (.int .i64 0) := cell_of_row _ _ 5 _ _ _ rr
    clear b3
    have z4_0 := frzRow rr 0
    have z4_1 := frzRow rr 1
    have z4_2 := frzRow rr 2
    have z4_3 := frzRow rr 3
    have z4_4 := frzRow rr 4
    have z4_5 := frzRow rr 5
    replace ra := rowSet (rowSet (rowSet (rowSet (rowSet (rowSet (ra) ⟨w.heap.size + 1, 0, none⟩ (.slice none 0 0) (by show _ ≠ w.heap.size + 1; omega)) ⟨w.heap.size + 1, 1, none⟩ (.int .i64 0) (by show _ ≠ w.heap.size + 1; omega)) ⟨w.heap.size + 1, 2, none⟩ (.bool false) (by show _ ≠ w.heap.size + 1; omega)) ⟨w.heap.size + 1, 3, none⟩ (.int .i64 0) (by show _ ≠ w.heap.size + 1; omega)) ⟨w.heap.size + 1, 4, none⟩ (.bool false) (by show _ ≠ w.heap.size + 1; omega)) ⟨w.heap.size + 1, 5, none⟩ (.int .i64 0) (by show _ ≠ w.heap.size + 1; omega)
    replace rr := put5 (put4 (put3 (put2 (put1 (put0 (rr) (.slice none 0 0)) (.int .i64 0)) (.bool false)) (.int .i64 0)) (.bool false)) (.int .i64 0)
    replace h := ((((((h).setOther ⟨w.heap.size + 1, 0, none⟩ (.slice none 0 0) (by show _ ≤ w.heap.size + 1; omega)).setOther ⟨w.heap.size + 1, 1, none⟩ (.int .i64 0) (by show _ ≤ w.heap.size + 1; omega)).setOther ⟨w.heap.size + 1, 2, none⟩ (.bool false) (by show _ ≤ w.heap.size + 1; omega)).setOther ⟨w.heap.size + 1, 3, none⟩ (.int .i64 0) (by show _ ≤ w.heap.size + 1; omega)).setOther ⟨w.heap.size + 1, 4, none⟩ (.bool false) (by show _ ≤ w.heap.size + 1; omega)).setOther ⟨w.heap.size + 1, 5, none⟩ (.int .i64 0) (by show _ ≤ w.heap.size + 1; omega)
    replace hB := ((((((hB).setCell (p := ⟨w.heap.size + 1, 0, none⟩) (by show _ ≤ w.heap.size + 1; omega) (.slice none 0 0)).setCell (p := ⟨w.heap.size + 1, 1, none⟩) (by show _ ≤ w.heap.size + 1; omega) (.int .i64 0)).setCell (p := ⟨w.heap.size + 1, 2, none⟩) (by show _ ≤ w.heap.size + 1; omega) (.bool false)).setCell (p := ⟨w.heap.size + 1, 3, none⟩) (by show _ ≤ w.heap.size + 1; omega) (.int .i64 0)).setCell (p := ⟨w.heap.size + 1, 4, none⟩) (by show _ ≤ w.heap.size + 1; omega) (.bool false)).setCell (p := ⟨w.heap.size + 1, 5, none⟩) (by show _ ≤ w.heap.size + 1; omega) (.int .i64 0)
    have s4 : w3.heap.size ≤ ((((((w3.setCell ⟨w.heap.size + 1, 0, none⟩ (.slice none 0 0)).setCell ⟨w.heap.size + 1, 1, none⟩ (.int .i64 0)).setCell ⟨w.heap.size + 1, 2, none⟩ (.bool false)).setCell ⟨w.heap.size + 1, 3, none⟩ (.int .i64 0)).setCell ⟨w.heap.size + 1, 4, none⟩ (.bool false)).setCell ⟨w.heap.size + 1, 5, none⟩ (.int .i64 0)).heap.size := by simp only [World.size_setCell]; exact Nat.le_refl _
    have ma4_0 : ((((((w3.setCell ⟨w.heap.size + 1, 0, none⟩ (.slice none 0 0)).setCell ⟨w.heap.size + 1, 1, none⟩ (.int .i64 0)).setCell ⟨w.heap.size + 1, 2, none⟩ (.bool false)).setCell ⟨w.heap.size + 1, 3, none⟩ (.int .i64 0)).setCell ⟨w.heap.size + 1, 4, none⟩ (.bool false)).setCell ⟨w.heap.size + 1, 5, none⟩ (.int .i64 0)).cell? ⟨w.heap.size, 0, none⟩ = some (.slice A d.length c) := cell_of_row _ _ 0 _ _ _ ra
    have ma4_1 : ((((((w3.setCell ⟨w.heap.size + 1, 0, none⟩ (.slice none 0 0)).setCell ⟨w.heap.size + 1, 1, none⟩ (.int .i64 0)).setCell ⟨w.heap.size + 1, 2, none⟩ (.bool false)).setCell ⟨w.heap.size + 1, 3, none⟩ (.int .i64 0)).setCell ⟨w.heap.size + 1, 4, none⟩ (.bool false)).setCell ⟨w.heap.size + 1, 5, none⟩ (.int .i64 0)).cell? ⟨w.heap.size, 1, none⟩ = some (.int .i64 ps) := cell_of_row _ _ 1 _ _ _ ra
    have ma4_2 : ((((((w3.setCell ⟨w.heap.size + 1, 0, none⟩ (.slice none 0 0)).setCell ⟨w.heap.size + 1, 1, none⟩ (.int .i64 0)).setCell ⟨w.heap.size + 1, 2, none⟩ (.bool false)).setCell ⟨w.heap.size + 1, 3, none⟩ (.int .i64 0)).setCell ⟨w.heap.size + 1, 4, none⟩ (.bool false)).setCell ⟨w.heap.size + 1, 5, none⟩ (.int .i64 0)).cell? ⟨w.heap.size, 2, none⟩ = some (.bool pp) := cell_of_row _ _ 2 _ _ _ ra
    have ma4_3 : ((((((w3.setCell ⟨w.heap.size + 1, 0, none⟩ (.slice none 0 0)).setCell ⟨w.heap.size + 1, 1, none⟩ (.int .i64 0)).setCell ⟨w.heap.size + 1, 2, none⟩ (.bool false)).setCell ⟨w.heap.size + 1, 3, none⟩ (.int .i64 0)).setCell ⟨w.heap.size + 1, 4, none⟩ (.bool false)).setCell ⟨w.heap.size + 1, 5, none⟩ (.int .i64 0)).cell? ⟨w.heap.size, 3, none⟩ = some (.int .i64 tk) := cell_of_row _ _ 3 _ _ _ ra
    have ma4_4 : ((((((w3.setCell ⟨w.heap.size + 1, 0, none⟩ (.slice none 0 0)).setCell ⟨w.heap.size + 1, 1, none⟩ (.int .i64 0)).setCell ⟨w.heap.size + 1, 2, none⟩ (.bool false)).setCell ⟨w.heap.size + 1, 3, none⟩ (.int .i64 0)).setCell ⟨w.heap.size + 1, 4, none⟩ (.bool false)).setCell ⟨w.heap.size + 1, 5, none⟩ (.int .i64 0)).cell? ⟨w.heap.size, 4, none⟩ = some (.bool tp) := cell_of_row _ _ 4 _ _ _ ra
    have ma4_5 : ((((((w3.setCell ⟨w.heap.size + 1, 0, none⟩ (.slice none 0 0)).setCell ⟨w.heap.size + 1, 1, none⟩ (.int .i64 0)).setCell ⟨w.heap.size + 1, 2, none⟩ (.bool false)).setCell ⟨w.heap.size + 1, 3, none⟩ (.int .i64 0)).setCell ⟨w.heap.size + 1, 4, none⟩ (.bool false)).setCell ⟨w.heap.size + 1, 5, none⟩ (.int .i64 0)).cell? ⟨w.heap.size, 5, none⟩ = some (.int .i64 pd) := cell_of_row _ _ 5 _ _ _ ra
    have mr3_0 : ((((((w3.setCell ⟨w.heap.size + 1, 0, none⟩ (.slice none 0 0)).setCell ⟨w.heap.size + 1, 1, none⟩ (.int .i64 0)).setCell ⟨w.heap.size + 1, 2, none⟩ (.bool false)).setCell ⟨w.heap.size + 1, 3, none⟩ (.int .i64 0)).setCell ⟨w.heap.size + 1, 4, none⟩ (.bool false)).setCell ⟨w.heap.size + 1, 5, none⟩ (.int .i64 0)).cell? ⟨w.heap.size + 1, 0, none⟩ = some (.slice none 0 0) := cell_of_row _ _ 0 _ _ _ rr
    have mr3_1 : ((((((w3.setCell ⟨w.heap.size + 1, 0, none⟩ (.slice none 0 0)).setCell ⟨w.heap.size + 1, 1, none⟩ (.int .i64 0)).setCell ⟨w.heap.size + 1, 2, none⟩ (.bool false)).setCell ⟨w.heap.size + 1, 3, none⟩ (.int .i64 0)).setCell ⟨w.heap.size + 1, 4, none⟩ (.bool false)).setCell ⟨w.heap.size + 1, 5, none⟩ (.int .i64 0)).cell? ⟨w.heap.size + 1, 1, none⟩ = some (.int .i64 0) := cell_of_row _ _ 1 _ _ _ rr
    have mr3_2 : ((((((w3.setCell ⟨w.heap.size + 1, 0, none⟩ (.slice none 0 0)).setCell ⟨w.heap.size + 1, 1, none⟩ (.int .i64 0)).setCell ⟨w.heap.size + 1, 2, none⟩ (.bool false)).setCell ⟨w.heap.size + 1, 3, none⟩ (.int .i64 0)).setCell ⟨w.heap.size + 1, 4, none⟩ (.bool false)).setCell ⟨w.heap.size + 1, 5, none⟩ (.int .i64 0)).cell? ⟨w.heap.size + 1, 2, none⟩ = some (.bool false) := cell_of_row _ _ 2 _ _ _ rr
    have mr3_3 : ((((((w3.setCell ⟨w.heap.size + 1, 0, none⟩ (.slice none 0 0)).setCell ⟨w.heap.size + 1, 1, none⟩ (.int .i64 0)).setCell ⟨w.heap.size + 1, 2, none⟩ (.bool false)).setCell ⟨w.heap.size + 1, 3, none⟩ (.int .i64 0)).setCell ⟨w.heap.size + 1, 4, none⟩ (.bool false)).setCell ⟨w.heap.size + 1, 5, none⟩ (.int .i64 0)).cell? ⟨w.heap.size + 1, 3, none⟩ = some (.int .i64 0) := cell_of_row _ _ 3 _ _ _ rr
    have mr3_4 : ((((((w3.setCell ⟨w.heap.size + 1, 0, none⟩ (.slice none 0 0)).setCell ⟨w.heap.size + 1, 1, none⟩ (.int .i64 0)).setCell ⟨w.heap.size + 1, 2, none⟩ (.bool false)).setCell ⟨w.heap.size + 1, 3, none⟩ (.int .i64 0)).setCell ⟨w.heap.size + 1, 4, none⟩ (.bool false)).setCell ⟨w.heap.size + 1, 5, none⟩ (.int .i64 0)).cell? ⟨w.heap.size + 1, 4, none⟩ = some (.bool false) := cell_of_row _ _ 4 _ _ _ rr
    have mr3_5 : ((((((w3.setCell ⟨w.heap.size + 1, 0, none⟩ (.slice none 0 0)).setCell ⟨w.heap.size + 1, 1, none⟩ (.int .i64 0)).setCell ⟨w.heap.size + 1, 2, none⟩ (.bool false)).setCell ⟨w.heap.size + 1, 3, none⟩ (.int .i64 0)).setCell ⟨w.heap.size + 1, 4, none⟩ (.bool false)).setCell ⟨w.heap.size + 1, 5, none⟩ (.int .i64 0)).cell? ⟨w.heap.size + 1, 5, none⟩ = some (.int .i64 0) := cell_of_row _ _ 5 _ _ _ rr
    go_wp2_with fail
    refine bodyPost_ret (v := .tuple #[.agg #[.slice none 0 0, .int .i64 0, .bool false, .int .i64 0, .bool false, .int .i64 0], .bool false]) (by simp only [results, Try.results24]; simp [go_sem, mr3_0, mr3_1, mr3_2, mr3_3, mr3_4, mr3_5]) rfl ?_
    have HE : (apost ⟨d, ps, pp, tk, tp, pd⟩ v).ents = [] := by rw [HP.out.1]; rfl
    have HF : postV ⟨d, ps, pp, tk, tp, pd⟩ v = fun x => .tuple #[ansR 0 false 0 false 0 x, .bool false] := by unfold postV; rw [HP.out.1, HP.out.2]; rfl
    rw [HE, HF]
    exact RetF.of (f := fun x => .tuple #[ansR 0 false 0 false 0 x, .bool false]) (Own.nil _ w.heap.size w.heap.size _ _) (Nat.le_refl _) (by omega) hB
  · have HV := Lib.hid hv
    have hh := ((aval_iff _).1 hv).1
    have q1 := hh.n1
    have q2 := hh.n16
    have q3 := hh.p0
    have q4 := hh.p1
    have q5 := hh.e0
    have q6 := hh.e1
    change 1 ≤ d.length at q1
    change d.length ≤ 16 at q2
    change 0 ≤ ps at q3
    change ps < (d.length : Int) at q4
    change 0 ≤ pd at q5
    change pd ≤ (d.length : Int) at q6
    clear hh
    obtain ⟨p, rfl⟩ := Int.eq_ofNat_of_zero_le q3
    by_cases hf : pd = (d.length : Int)
    · have HP := Lib.hid (apost_full ⟨d, (p : Int), pp, tk, tp, pd⟩ v hv hf)
      have hb0 : (pd == (d.length : Int)) = true := beq_iff_eq.2 hf
      clear hv hf
      have hn1 := below_new w (.cells #[.slice A d.length c, .int .i64 (p : Int), .bool pp, .int .i64 tk, .bool tp, .int .i64 pd] 24)
      replace h := h.below hn1 (by omega)
      replace hB := below_later hB hn1 (by omega)
      clear hn1
      have s1 : w.heap.size < (w.alloc (.cells #[.slice A d.length c, .int .i64 (p : Int), .bool pp, .int .i64 tk, .bool tp, .int .i64 pd] 24)).heap.size := Nat.lt_of_lt_of_eq (Nat.lt_succ_self _) (World.size_alloc _ _).symm
      have ra : (w.alloc (.cells #[.slice A d.length c, .int .i64 (p : Int), .bool pp, .int .i64 tk, .bool tp, .int .i64 pd] 24)).heap[w.heap.size]? = some (.cells #[.slice A d.length c, .int .i64 (p : Int), .bool pp, .int .i64 tk, .bool tp, .int .i64 pd] 24 (0, 0)) := by have q := heap_alloc_new w (.cells #[.slice A d.length c, .int .i64 (p : Int), .bool pp, .int .i64 tk, .bool tp, .int .i64 pd] 24); (try simp only [World.size_alloc, World.size_setCell] at q); exact q
      have ma1_0 : (w.alloc (.cells #[.slice A d.length c, .int .i64 (p : Int), .bool pp, .int .i64 tk, .bool tp, .int .i64 pd] 24)).cell? ⟨w.heap.size, 0, none⟩ = some (.slice A d.length c) := cell_of_row _ _ 0 _ _ _ ra
      have ma1_1 : (w.alloc (.cells #[.slice A d.length c, .int .i64 (p : Int), .bool pp, .int .i64 tk, .bool tp, .int .i64 pd] 24)).cell? ⟨w.heap.size, 1, none⟩ = some (.int .i64 (p : Int)) := cell_of_row _ _ 1 _ _ _ ra
      have ma1_2 : (w.alloc (.cells #[.slice A d.length c, .int .i64 (p : Int), .bool pp, .int .i64 tk, .bool tp, .int .i64 pd] 24)).cell? ⟨w.heap.size, 2, none⟩ = some (.bool pp) := cell_of_row _ _ 2 _ _ _ ra
      have ma1_3 : (w.alloc (.cells #[.slice A d.length c, .int .i64 (p : Int), .bool pp, .int .i64 tk, .bool tp, .int .i64 pd] 24)).cell? ⟨w.heap.size, 3, none⟩ = some (.int .i64 tk) := cell_of_row _ _ 3 _ _ _ ra
      have ma1_4 : (w.alloc (.cells #[.slice A d.length c, .int .i64 (p : Int), .bool pp, .int .i64 tk, .bool tp, .int .i64 pd] 24)).cell? ⟨w.heap.size, 4, none⟩ = some (.bool tp) := cell_of_row _ _ 4 _ _ _ ra
      have ma1_5 : (w.alloc (.cells #[.slice A d.length c, .int .i64 (p : Int), .bool pp, .int .i64 tk, .bool tp, .int .i64 pd] 24)).cell? ⟨w.heap.size, 5, none⟩ = some (.int .i64 pd) := cell_of_row _ _ 5 _ _ _ ra
      have hn2 := below_new (w.alloc (.cells #[.slice A d.length c, .int .i64 (p : Int), .bool pp, .int .i64 tk, .bool tp, .int .i64 pd] 24)) (.cells #[.slice none 0 0, .int .i64 0, .bool false, .int .i64 0, .bool false, .int .i64 0] 24)
      replace ra := rowKeep ra hn2
      replace h := h.below hn2 (by omega)
      replace hB := below_later hB hn2 (by omega)
      have ma2_0 : ((w.alloc (.cells #[.slice A d.length c, .int .i64 (p : Int), .bool pp, .int .i64 tk, .bool tp, .int .i64 pd] 24)).alloc (.cells #[.slice none 0 0, .int .i64 0, .bool false, .int .i64 0, .bool false, .int .i64 0] 24)).cell? ⟨w.heap.size, 0, none⟩ = some (.slice A d.length c) := cell_of_row _ _ 0 _ _ _ ra
      have ma2_1 : ((w.alloc (.cells #[.slice A d.length c, .int .i64 (p : Int), .bool pp, .int .i64 tk, .bool tp, .int .i64 pd] 24)).alloc (.cells #[.slice none 0 0, .int .i64 0, .bool false, .int .i64 0, .bool false, .int .i64 0] 24)).cell? ⟨w.heap.size, 1, none⟩ = some (.int .i64 (p : Int)) := cell_of_row _ _ 1 _ _ _ ra
      have ma2_2 : ((w.alloc (.cells #[.slice A d.length c, .int .i64 (p : Int), .bool pp, .int .i64 tk, .bool tp, .int .i64 pd] 24)).alloc (.cells #[.slice none 0 0, .int .i64 0, .bool false, .int .i64 0, .bool false, .int .i64 0] 24)).cell? ⟨w.heap.size, 2, none⟩ = some (.bool pp) := cell_of_row _ _ 2 _ _ _ ra
      have ma2_3 : ((w.alloc (.cells #[.slice A d.length c, .int .i64 (p : Int), .bool pp, .int .i64 tk, .bool tp, .int .i64 pd] 24)).alloc (.cells #[.slice none 0 0, .int .i64 0, .bool false, .int .i64 0, .bool false, .int .i64 0] 24)).cell? ⟨w.heap.size, 3, none⟩ = some (.int .i64 tk) := cell_of_row _ _ 3 _ _ _ ra
      have ma2_4 : ((w.alloc (.cells #[.slice A d.length c, .int .i64 (p : Int), .bool pp, .int .i64 tk, .bool tp, .int .i64 pd] 24)).alloc (.cells #[.slice none 0 0, .int .i64 0, .bool false, .int .i64 0, .bool false, .int .i64 0] 24)).cell? ⟨w.heap.size, 4, none⟩ = some (.bool tp) := cell_of_row _ _ 4 _ _ _ ra
      have ma2_5 : ((w.alloc (.cells #[.slice A d.length c, .int .i64 (p : Int), .bool pp, .int .i64 tk, .bool tp, .int .i64 pd] 24)).alloc (.cells #[.slice none 0 0, .int .i64 0, .bool false, .int .i64 0, .bool false, .int .i64 0] 24)).cell? ⟨w.heap.size, 5, none⟩ = some (.int .i64 pd) := cell_of_row _ _ 5 _ _ _ ra
      clear hn2
      have s2 : (w.alloc (.cells #[.slice A d.length c, .int .i64 (p : Int), .bool pp, .int .i64 tk, .bool tp, .int .i64 pd] 24)).heap.size < ((w.alloc (.cells #[.slice A d.length c, .int .i64 (p : Int), .bool pp, .int .i64 tk, .bool tp, .int .i64 pd] 24)).alloc (.cells #[.slice none 0 0, .int .i64 0, .bool false, .int .i64 0, .bool false, .int .i64 0] 24)).heap.size := Nat.lt_of_lt_of_eq (Nat.lt_succ_self _) (World.size_alloc _ _).symm
      have rr : ((w.alloc (.cells #[.slice A d.length c, .int .i64 (p : Int), .bool pp, .int .i64 tk, .bool tp, .int .i64 pd] 24)).alloc (.cells #[.slice none 0 0, .int .i64 0, .bool false, .int .i64 0, .bool false, .int .i64 0] 24)).heap[w.heap.size + 1]? = some (.cells #[.slice none 0 0, .int .i64 0, .bool false, .int .i64 0, .bool false, .int .i64 0] 24 (0, 0)) := by have q := heap_alloc_new (w.alloc (.cells #[.slice A d.length c, .int .i64 (p : Int), .bool pp, .int .i64 tk, .bool tp, .int .i64 pd] 24)) (.cells #[.slice none 0 0, .int .i64 0, .bool false, .int .i64 0, .bool false, .int .i64 0] 24); (try simp only [World.size_alloc, World.size_setCell] at q); exact q
      have mr1_0 : ((w.alloc (.cells #[.slice A d.length c, .int .i64 (p : Int), .bool pp, .int .i64 tk, .bool tp, .int .i64 pd] 24)).alloc (.cells #[.slice none 0 0, .int .i64 0, .bool false, .int .i64 0, .bool false, .int .i64 0] 24)).cell? ⟨w.heap.size + 1, 0, none⟩ = some (.slice none 0 0) := cell_of_row _ _ 0 _ _ _ rr
      have mr1_1 : ((w.alloc (.cells #[.slice A d.length c, .int .i64 (p : Int), .bool pp, .int .i64 tk, .bool tp, .int .i64 pd] 24)).alloc (.cells #[.slice none 0 0, .int .i64 0, .bool false, .int .i64 0, .bool false, .int .i64 0] 24)).cell? ⟨w.heap.size + 1, 1, none⟩ = some (.int .i64 0) := cell_of_row _ _ 1 _ _ _ rr
      have mr1_2 : ((w.alloc (.cells #[.slice A d.length c, .int .i64 (p : Int), .bool pp, .int .i64 tk, .bool tp, .int .i64 pd] 24)).alloc (.cells #[.slice none 0 0, .int .i64 0, .bool false, .int .i64 0, .bool false, .int .i64 0] 24)).cell? ⟨w.heap.size + 1, 2, none⟩ = some (.bool false) := cell_of_row _ _ 2 _ _ _ rr
      have mr1_3 : ((w.alloc (.cells #[.slice A d.length c, .int .i64 (p : Int), .bool pp, .int .i64 tk, .bool tp, .int .i64 pd] 24)).alloc (.cells #[.slice none 0 0, .int .i64 0, .bool false, .int .i64 0, .bool false, .int .i64 0] 24)).cell? ⟨w.heap.size + 1, 3, none⟩ = some (.int .i64 0) := cell_of_row _ _ 3 _ _ _ rr
      have mr1_4 : ((w.alloc (.cells #[.slice A d.length c, .int .i64 (p : Int), .bool pp, .int .i64 tk, .bool tp, .int .i64 pd] 24)).alloc (.cells #[.slice none 0 0, .int .i64 0, .bool false, .int .i64 0, .bool false, .int .i64 0] 24)).cell? ⟨w.heap.size + 1, 4, none⟩ = some (.bool false) := cell_of_row _ _ 4 _ _ _ rr
      have mr1_5 : ((w.alloc (.cells #[.slice A d.length c, .int .i64 (p : Int), .bool pp, .int .i64 tk, .bool tp, .int .i64 pd] 24)).alloc (.cells #[.slice none 0 0, .int .i64 0, .bool false, .int .i64 0, .bool false, .int .i64 0] 24)).cell? ⟨w.heap.size + 1, 5, none⟩ = some (.int .i64 0) := cell_of_row _ _ 5 _ _ _ rr
      go_enter Try.func24, Try.ntmps24
      go_wp2_with fail
      clear ma1_0 ma1_1 ma1_2 ma1_3 ma1_4 ma1_5
      generalize (w.alloc (.cells #[.slice A d.length c, .int .i64 (p : Int), .bool pp, .int .i64 tk, .bool tp, .int .i64 pd] 24)) = u1 at *
      generalize (u1.alloc (.cells #[.slice none 0 0, .int .i64 0, .bool false, .int .i64 0, .bool false, .int .i64 0] 24)) = u2 at *
      have q := implAnswersValid_any A d.length c _ d (p : Int) pp tk tp pd u2 h (by omega)
      rw [HV.out] at q
      refine q.mono ?_
      clear q
      rintro e w3 ⟨rfl, b3⟩
      have s3 := b3.size
      clear ma2_0 ma2_1 ma2_2 ma2_3 ma2_4 ma2_5
      clear mr1_0 mr1_1 mr1_2 mr1_3 mr1_4 mr1_5
      replace ra := rowKeep ra b3
      replace rr := rowKeep rr b3
      replace h := h.below b3 (by omega)
      replace hB := below_later hB b3 (by omega)
      have ma3_0 : w3.cell? ⟨w.heap.size, 0, none⟩ = some (.slice A d.length c) := cell_of_row _ _ 0 _ _ _ ra
      have ma3_1 : w3.cell? ⟨w.heap.size, 1, none⟩ = some (.int .i64 (p : Int)) := cell_of_row _ _ 1 _ _ _ ra
      have ma3_2 : w3.cell? ⟨w.heap.size, 2, none⟩ = some (.bool pp) := cell_of_row _ _ 2 _ _ _ ra
      have ma3_3 : w3.cell? ⟨w.heap.size, 3, none⟩ = some (.int .i64 tk) := cell_of_row _ _ 3 _ _ _ ra
      have ma3_4 : w3.cell? ⟨w.heap.size, 4, none⟩ = some (.bool tp) := cell_of_row _ _ 4 _ _ _ ra
      have ma3_5 : w3.cell? ⟨w.heap.size, 5, none⟩ = some (.int .i64 pd) := cell_of_row _ _ 5 _ _ _ ra
      have mr2_0 : w3.cell? ⟨w.heap.size + 1, 0, none⟩ = some (.slice none 0 0) := cell_of_row _ _ 0 _ _ _ rr
      have mr2_1 : w3.cell? ⟨w.heap.size + 1, 1, none⟩ = some (.int .i64 0) := cell_of_row _ _ 1 _ _ _ rr
      have mr2_2 : w3.cell? ⟨w.heap.size + 1, 2, none⟩ = some (.bool false) := cell_of_row _ _ 2 _ _ _ rr
      have mr2_3 : w3.cell? ⟨w.heap.size + 1, 3, none⟩ = some (.int .i64 0) := cell_of_row _ _ 3 _ _ _ rr
      have mr2_4 : w3.cell? ⟨w.heap.size + 1, 4, none⟩ = some (.bool false) := cell_of_row _ _ 4 _ _ _ rr
      have mr2_5 : w3.cell? ⟨w.heap.size + 1, 5, none⟩ = some (.int .i64 0) := cell_of_row _ _ 5 _ _ _ rr
      clear b3
      go_wp2_with fail
      have q := cloneA_any A d.length c _ (ansC d) w3 h (ansC_one d) (by omega) (by omega)
      refine q.mono ?_
      clear q
      rintro e w4 ⟨A2, c2, rfl, o2, b4⟩
      have s4 := b4.size
      clear ma3_0 ma3_1 ma3_2 ma3_3 ma3_4 ma3_5
      clear mr2_0 mr2_1 mr2_2 mr2_3 mr2_4 mr2_5
      replace ra := rowKeep ra b4
      replace rr := rowKeep rr b4
      replace h := h.below b4 (by omega)
      replace hB := below_later hB b4 (by omega)
      have ma4_0 : w4.cell? ⟨w.heap.size, 0, none⟩ = some (.slice A d.length c) := cell_of_row _ _ 0 _ _ _ ra
      have ma4_1 : w4.cell? ⟨w.heap.size, 1, none⟩ = some (.int .i64 (p : Int)) := cell_of_row _ _ 1 _ _ _ ra
      have ma4_2 : w4.cell? ⟨w.heap.size, 2, none⟩ = some (.bool pp) := cell_of_row _ _ 2 _ _ _ ra
      have ma4_3 : w4.cell? ⟨w.heap.size, 3, none⟩ = some (.int .i64 tk) := cell_of_row _ _ 3 _ _ _ ra
      have ma4_4 : w4.cell? ⟨w.heap.size, 4, none⟩ = some (.bool tp) := cell_of_row _ _ 4 _ _ _ ra
      have ma4_5 : w4.cell? ⟨w.heap.size, 5, none⟩ = some (.int .i64 pd) := cell_of_row _ _ 5 _ _ _ ra
      have mr3_0 : w4.cell? ⟨w.heap.size + 1, 0, none⟩ = some (.slice none 0 0) := cell_of_row _ _ 0 _ _ _ rr
      have mr3_1 : w4.cell? ⟨w.heap.size + 1, 1, none⟩ = some (.int .i64 0) := cell_of_row _ _ 1 _ _ _ rr
      have mr3_2 : w4.cell? ⟨w.heap.size + 1, 2, none⟩ = some (.bool false) := cell_of_row _ _ 2 _ _ _ rr
      have mr3_3 : w4.cell? ⟨w.heap.size + 1, 3, none⟩ = some (.int .i64 0) := cell_of_row _ _ 3 _ _ _ rr
      have mr3_4 : w4.cell? ⟨w.heap.size + 1, 4, none⟩ = some (.bool false) := cell_of_row _ _ 4 _ _ _ rr
      have mr3_5 : w4.cell? ⟨w.heap.size + 1, 5, none⟩ = some (.int .i64 0) := cell_of_row _ _ 5 _ _ _ rr
      clear b4
      have z5 := frzRow ra 0
      replace rr := rowSet rr ⟨w.heap.size, 0, none⟩ (.slice A2 d.length c2) (by show _ ≠ w.heap.size; omega)
      replace ra : (w4.setCell ⟨w.heap.size, 0, none⟩ (.slice A2 d.length c2)).heap[w.heap.size]? = some (.cells #[.slice A2 d.length c2, .int .i64 (p : Int), .bool pp, .int .i64 tk, .bool tp, .int .i64 pd] 24 (0, 0)) := by rw [heap_setCell_same _ _ 0 _ _ _ ra]; rfl
      replace o2 := o2.setOther ⟨w.heap.size, 0, none⟩ (.slice A2 d.length c2) (by show w.heap.size < _ ∨ _ ≤ w.heap.size; omega)
      replace h := h.setOther ⟨w.heap.size, 0, none⟩ (.slice A2 d.length c2) (by show _ ≤ w.heap.size; omega)
      replace hB := hB.setCell (p := ⟨w.heap.size, 0, none⟩) (by show _ ≤ w.heap.size; omega) (.slice A2 d.length c2)
      have s5 : w4.heap.size ≤ (w4.setCell ⟨w.heap.size, 0, none⟩ (.slice A2 d.length c2)).heap.size := Nat.le_of_eq (World.size_setCell _ _ _).symm
      have ma5_0 : (w4.setCell ⟨w.heap.size, 0, none⟩ (.slice A2 d.length c2)).cell? ⟨w.heap.size, 0, none⟩ = some (.slice A2 d.length c2) := cell_of_row _ _ 0 _ _ _ ra
      have ma5_1 : (w4.setCell ⟨w.heap.size, 0, none⟩ (.slice A2 d.length c2)).cell? ⟨w.heap.size, 1, none⟩ = some (.int .i64 (p : Int)) := cell_of_row _ _ 1 _ _ _ ra
      have ma5_2 : (w4.setCell ⟨w.heap.size, 0, none⟩ (.slice A2 d.length c2)).cell? ⟨w.heap.size, 2, none⟩ = some (.bool pp) := cell_of_row _ _ 2 _ _ _ ra
      have ma5_3 : (w4.setCell ⟨w.heap.size, 0, none⟩ (.slice A2 d.length c2)).cell? ⟨w.heap.size, 3, none⟩ = some (.int .i64 tk) := cell_of_row _ _ 3 _ _ _ ra
      have ma5_4 : (w4.setCell ⟨w.heap.size, 0, none⟩ (.slice A2 d.length c2)).cell? ⟨w.heap.size, 4, none⟩ = some (.bool tp) := cell_of_row _ _ 4 _ _ _ ra
      have ma5_5 : (w4.setCell ⟨w.heap.size, 0, none⟩ (.slice A2 d.length c2)).cell? ⟨w.heap.size, 5, none⟩ = some (.int .i64 pd) := cell_of_row _ _ 5 _ _ _ ra
      have mr4_0 : (w4.setCell ⟨w.heap.size, 0, none⟩ (.slice A2 d.length c2)).cell? ⟨w.heap.size + 1, 0, none⟩ = some (.slice none 0 0) := cell_of_row _ _ 0 _ _ _ rr
      have mr4_1 : (w4.setCell ⟨w.heap.size, 0, none⟩ (.slice A2 d.length c2)).cell? ⟨w.heap.size + 1, 1, none⟩ = some (.int .i64 0) := cell_of_row _ _ 1 _ _ _ rr
      have mr4_2 : (w4.setCell ⟨w.heap.size, 0, none⟩ (.slice A2 d.length c2)).cell? ⟨w.heap.size + 1, 2, none⟩ = some (.bool false) := cell_of_row _ _ 2 _ _ _ rr
      have mr4_3 : (w4.setCell ⟨w.heap.size, 0, none⟩ (.slice A2 d.length c2)).cell? ⟨w.heap.size + 1, 3, none⟩ = some (.int .i64 0) := cell_of_row _ _ 3 _ _ _ rr
      have mr4_4 : (w4.setCell ⟨w.heap.size, 0, none⟩ (.slice A2 d.length c2)).cell? ⟨w.heap.size + 1, 4, none⟩ = some (.bool false) := cell_of_row _ _ 4 _ _ _ rr
      have mr4_5 : (w4.setCell ⟨w.heap.size, 0, none⟩ (.slice A2 d.length c2)).cell? ⟨w.heap.size + 1, 5, none⟩ = some (.int .i64 0) := cell_of_row _ _ 5 _ _ _ rr
      go_upto_region 4 with fail
      clear z5 ma4_0 ma4_1 ma4_2 ma4_3 ma4_4 ma4_5 mr3_0 mr3_1 mr3_2 mr3_3 mr3_4 mr3_5
      generalize (w4.setCell ⟨w.heap.size, 0, none⟩ (.slice A2 d.length c2)) = u5 at *
      have z6_0 := frzRow rr 0
      have z6_1 := frzRow rr 1
      have z6_2 := frzRow rr 2
      have z6_3 := frzRow rr 3
      have z6_4 := frzRow rr 4
      have z6_5 := frzRow rr 5
      replace ra := rowSet (rowSet (rowSet (rowSet (rowSet (rowSet (ra) ⟨w.heap.size + 1, 0, none⟩ (.slice A2 d.length c2) (by show _ ≠ w.heap.size + 1; omega)) ⟨w.heap.size + 1, 1, none⟩ (.int .i64 (p : Int)) (by show _ ≠ w.heap.size + 1; omega)) ⟨w.heap.size + 1, 2, none⟩ (.bool pp) (by show _ ≠ w.heap.size + 1; omega)) ⟨w.heap.size + 1, 3, none⟩ (.int .i64 tk) (by show _ ≠ w.heap.size + 1; omega)) ⟨w.heap.size + 1, 4, none⟩ (.bool tp) (by show _ ≠ w.heap.size + 1; omega)) ⟨w.heap.size + 1, 5, none⟩ (.int .i64 pd) (by show _ ≠ w.heap.size + 1; omega)
      replace rr := put5 (put4 (put3 (put2 (put1 (put0 (rr) (.slice A2 d.length c2)) (.int .i64 (p : Int))) (.bool pp)) (.int .i64 tk)) (.bool tp)) (.int .i64 pd)
      replace o2 := ((((((o2).setOther ⟨w.heap.size + 1, 0, none⟩ (.slice A2 d.length c2) (by show w.heap.size + 1 < _ ∨ _ ≤ w.heap.size + 1; omega)).setOther ⟨w.heap.size + 1, 1, none⟩ (.int .i64 (p : Int)) (by show w.heap.size + 1 < _ ∨ _ ≤ w.heap.size + 1; omega)).setOther ⟨w.heap.size + 1, 2, none⟩ (.bool pp) (by show w.heap.size + 1 < _ ∨ _ ≤ w.heap.size + 1; omega)).setOther ⟨w.heap.size + 1, 3, none⟩ (.int .i64 tk) (by show w.heap.size + 1 < _ ∨ _ ≤ w.heap.size + 1; omega)).setOther ⟨w.heap.size + 1, 4, none⟩ (.bool tp) (by show w.heap.size + 1 < _ ∨ _ ≤ w.heap.size + 1; omega)).setOther ⟨w.heap.size + 1, 5, none⟩ (.int .i64 pd) (by show w.heap.size + 1 < _ ∨ _ ≤ w.heap.size + 1; omega)
      replace h := ((((((h).setOther ⟨w.heap.size + 1, 0, none⟩ (.slice A2 d.length c2) (by show _ ≤ w.heap.size + 1; omega)).setOther ⟨w.heap.size + 1, 1, none⟩ (.int .i64 (p : Int)) (by show _ ≤ w.heap.size + 1; omega)).setOther ⟨w.heap.size + 1, 2, none⟩ (.bool pp) (by show _ ≤ w.heap.size + 1; omega)).setOther ⟨w.heap.size + 1, 3, none⟩ (.int .i64 tk) (by show _ ≤ w.heap.size + 1; omega)).setOther ⟨w.heap.size + 1, 4, none⟩ (.bool tp) (by show _ ≤ w.heap.size + 1; omega)).setOther ⟨w.heap.size + 1, 5, none⟩ (.int .i64 pd) (by show _ ≤ w.heap.size + 1; omega)
      replace hB := ((((((hB).setCell (p := ⟨w.heap.size + 1, 0, none⟩) (by show _ ≤ w.heap.size + 1; omega) (.slice A2 d.length c2)).setCell (p := ⟨w.heap.size + 1, 1, none⟩) (by show _ ≤ w.heap.size + 1; omega) (.int .i64 (p : Int))).setCell (p := ⟨w.heap.size + 1, 2, none⟩) (by show _ ≤ w.heap.size + 1; omega) (.bool pp)).setCell (p := ⟨w.heap.size + 1, 3, none⟩) (by show _ ≤ w.heap.size + 1; omega) (.int .i64 tk)).setCell (p := ⟨w.heap.size + 1, 4, none⟩) (by show _ ≤ w.heap.size + 1; omega) (.bool tp)).setCell (p := ⟨w.heap.size + 1, 5, none⟩) (by show _ ≤ w.heap.size + 1; omega) (.int .i64 pd)
      have s6 : u5.heap.size ≤ ((((((u5.setCell ⟨w.heap.size + 1, 0, none⟩ (.slice A2 d.length c2)).setCell ⟨w.heap.size + 1, 1, none⟩ (.int .i64 (p : Int))).setCell ⟨w.heap.size + 1, 2, none⟩ (.bool pp)).setCell ⟨w.heap.size + 1, 3, none⟩ (.int .i64 tk)).setCell ⟨w.heap.size + 1, 4, none⟩ (.bool tp)).setCell ⟨w.heap.size + 1, 5, none⟩ (.int .i64 pd)).heap.size := by simp only [World.size_setCell]; exact Nat.le_refl _
      have ma6_0 : ((((((u5.setCell ⟨w.heap.size + 1, 0, none⟩ (.slice A2 d.length c2)).setCell ⟨w.heap.size + 1, 1, none⟩ (.int .i64 (p : Int))).setCell ⟨w.heap.size + 1, 2, none⟩ (.bool pp)).setCell ⟨w.heap.size + 1, 3, none⟩ (.int .i64 tk)).setCell ⟨w.heap.size + 1, 4, none⟩ (.bool tp)).setCell ⟨w.heap.size + 1, 5, none⟩ (.int .i64 pd)).cell? ⟨w.heap.size, 0, none⟩ = some (.slice A2 d.length c2) := cell_of_row _ _ 0 _ _ _ ra
      have ma6_1 : ((((((u5.setCell ⟨w.heap.size + 1, 0, none⟩ (.slice A2 d.length c2)).setCell ⟨w.heap.size + 1, 1, none⟩ (.int .i64 (p : Int))).setCell ⟨w.heap.size + 1, 2, none⟩ (.bool pp)).setCell ⟨w.heap.size + 1, 3, none⟩ (.int .i64 tk)).setCell ⟨w.heap.size + 1, 4, none⟩ (.bool tp)).setCell ⟨w.heap.size + 1, 5, none⟩ (.int .i64 pd)).cell? ⟨w.heap.size, 1, none⟩ = some (.int .i64 (p : Int)) := cell_of_row _ _ 1 _ _ _ ra
      have ma6_2 : ((((((u5.setCell ⟨w.heap.size + 1, 0, none⟩ (.slice A2 d.length c2)).setCell ⟨w.heap.size + 1, 1, none⟩ (.int .i64 (p : Int))).setCell ⟨w.heap.size + 1, 2, none⟩ (.bool pp)).setCell ⟨w.heap.size + 1, 3, none⟩ (.int .i64 tk)).setCell ⟨w.heap.size + 1, 4, none⟩ (.bool tp)).setCell ⟨w.heap.size + 1, 5, none⟩ (.int .i64 pd)).cell? ⟨w.heap.size, 2, none⟩ = some (.bool pp) := cell_of_row _ _ 2 _ _ _ ra
      have ma6_3 : ((((((u5.setCell ⟨w.heap.size + 1, 0, none⟩ (.slice A2 d.length c2)).setCell ⟨w.heap.size + 1, 1, none⟩ (.int .i64 (p : Int))).setCell ⟨w.heap.size + 1, 2, none⟩ (.bool pp)).setCell ⟨w.heap.size + 1, 3, none⟩ (.int .i64 tk)).setCell ⟨w.heap.size + 1, 4, none⟩ (.bool tp)).setCell ⟨w.heap.size + 1, 5, none⟩ (.int .i64 pd)).cell? ⟨w.heap.size, 3, none⟩ = some (.int .i64 tk) := cell_of_row _ _ 3 _ _ _ ra
      have ma6_4 : ((((((u5.setCell ⟨w.heap.size + 1, 0, none⟩ (.slice A2 d.length c2)).setCell ⟨w.heap.size + 1, 1, none⟩ (.int .i64 (p : Int))).setCell ⟨w.heap.size + 1, 2, none⟩ (.bool pp)).setCell ⟨w.heap.size + 1, 3, none⟩ (.int .i64 tk)).setCell ⟨w.heap.size + 1, 4, none⟩ (.bool tp)).setCell ⟨w.heap.size + 1, 5, none⟩ (.int .i64 pd)).cell? ⟨w.heap.size, 4, none⟩ = some (.bool tp) := cell_of_row _ _ 4 _ _ _ ra
      have ma6_5 : ((((((u5.setCell ⟨w.heap.size + 1, 0, none⟩ (.slice A2 d.length c2)).setCell ⟨w.heap.size + 1, 1, none⟩ (.int .i64 (p : Int))).setCell ⟨w.heap.size + 1, 2, none⟩ (.bool pp)).setCell ⟨w.heap.size + 1, 3, none⟩ (.int .i64 tk)).setCell ⟨w.heap.size + 1, 4, none⟩ (.bool tp)).setCell ⟨w.heap.size + 1, 5, none⟩ (.int .i64 pd)).cell? ⟨w.heap.size, 5, none⟩ = some (.int .i64 pd) := cell_of_row _ _ 5 _ _ _ ra
      have mr5_0 : ((((((u5.setCell ⟨w.heap.size + 1, 0, none⟩ (.slice A2 d.length c2)).setCell ⟨w.heap.size + 1, 1, none⟩ (.int .i64 (p : Int))).setCell ⟨w.heap.size + 1, 2, none⟩ (.bool pp)).setCell ⟨w.heap.size + 1, 3, none⟩ (.int .i64 tk)).setCell ⟨w.heap.size + 1, 4, none⟩ (.bool tp)).setCell ⟨w.heap.size + 1, 5, none⟩ (.int .i64 pd)).cell? ⟨w.heap.size + 1, 0, none⟩ = some (.slice A2 d.length c2) := cell_of_row _ _ 0 _ _ _ rr
      have mr5_1 : ((((((u5.setCell ⟨w.heap.size + 1, 0, none⟩ (.slice A2 d.length c2)).setCell ⟨w.heap.size + 1, 1, none⟩ (.int .i64 (p : Int))).setCell ⟨w.heap.size + 1, 2, none⟩ (.bool pp)).setCell ⟨w.heap.size + 1, 3, none⟩ (.int .i64 tk)).setCell ⟨w.heap.size + 1, 4, none⟩ (.bool tp)).setCell ⟨w.heap.size + 1, 5, none⟩ (.int .i64 pd)).cell? ⟨w.heap.size + 1, 1, none⟩ = some (.int .i64 (p : Int)) := cell_of_row _ _ 1 _ _ _ rr
      have mr5_2 : ((((((u5.setCell ⟨w.heap.size + 1, 0, none⟩ (.slice A2 d.length c2)).setCell ⟨w.heap.size + 1, 1, none⟩ (.int .i64 (p : Int))).setCell ⟨w.heap.size + 1, 2, none⟩ (.bool pp)).setCell ⟨w.heap.size + 1, 3, none⟩ (.int .i64 tk)).setCell ⟨w.heap.size + 1, 4, none⟩ (.bool tp)).setCell ⟨w.heap.size + 1, 5, none⟩ (.int .i64 pd)).cell? ⟨w.heap.size + 1, 2, none⟩ = some (.bool pp) := cell_of_row _ _ 2 _ _ _ rr
      have mr5_3 : ((((((u5.setCell ⟨w.heap.size + 1, 0, none⟩ (.slice A2 d.length c2)).setCell ⟨w.heap.size + 1, 1, none⟩ (.int .i64 (p : Int))).setCell ⟨w.heap.size + 1, 2, none⟩ (.bool pp)).setCell ⟨w.heap.size + 1, 3, none⟩ (.int .i64 tk)).setCell ⟨w.heap.size + 1, 4, none⟩ (.bool tp)).setCell ⟨w.heap.size + 1, 5, none⟩ (.int .i64 pd)).cell? ⟨w.heap.size + 1, 3, none⟩ = some (.int .i64 tk) := cell_of_row _ _ 3 _ _ _ rr
      have mr5_4 : ((((((u5.setCell ⟨w.heap.size + 1, 0, none⟩ (.slice A2 d.length c2)).setCell ⟨w.heap.size + 1, 1, none⟩ (.int .i64 (p : Int))).setCell ⟨w.heap.size + 1, 2, none⟩ (.bool pp)).setCell ⟨w.heap.size + 1, 3, none⟩ (.int .i64 tk)).setCell ⟨w.heap.size + 1, 4, none⟩ (.bool tp)).setCell ⟨w.heap.size + 1, 5, none⟩ (.int .i64 pd)).cell? ⟨w.heap.size + 1, 4, none⟩ = some (.bool tp) := cell_of_row _ _ 4 _ _ _ rr
      have mr5_5 : ((((((u5.setCell ⟨w.heap.size + 1, 0, none⟩ (.slice A2 d.length c2)).setCell ⟨w.heap.size + 1, 1, none⟩ (.int .i64 (p : Int))).setCell ⟨w.heap.size + 1, 2, none⟩ (.bool pp)).setCell ⟨w.heap.size + 1, 3, none⟩ (.int .i64 tk)).setCell ⟨w.heap.size + 1, 4, none⟩ (.bool tp)).setCell ⟨w.heap.size + 1, 5, none⟩ (.int .i64 pd)).cell? ⟨w.heap.size + 1, 5, none⟩ = some (.int .i64 pd) := cell_of_row _ _ 5 _ _ _ rr
      go_wp2_with fail
      refine bodyPost_ret (v := .tuple #[.agg #[.slice A2 d.length c2, .int .i64 (p : Int), .bool pp, .int .i64 tk, .bool tp, .int .i64 pd], .bool false]) (by simp only [results, Try.results24]; simp [go_sem, mr5_0, mr5_1, mr5_2, mr5_3, mr5_4, mr5_5]) rfl ?_
      have HE : (apost ⟨d, (p : Int), pp, tk, tp, pd⟩ v).ents = d := by rw [HP.out.1]
      have HF : postV ⟨d, (p : Int), pp, tk, tp, pd⟩ v = fun x => .tuple #[ansR (p : Int) pp tk tp pd x, .bool false] := by unfold postV; rw [HP.out.1, HP.out.2]; rfl
      rw [HE, HF]
      exact RetF.of (f := fun x => .tuple #[ansR (p : Int) pp tk tp pd x, .bool false]) o2 (by omega) (by omega) hB
    · have HP := Lib.hid (apost_put ⟨d, (p : Int), pp, tk, tp, pd⟩ v hv hf)
      have hb0 : (pd == (d.length : Int)) = false := beq_eq_false_iff_ne.2 hf
      obtain ⟨m, hm, hm0, hm1, hme⟩ : ∃ m : Int, ((p : Int) + 1) % (d.length : Int) = m ∧ 0 ≤ m ∧ m < (d.length : Int) ∧ ((p : Int) + 1).tmod (d.length : Int) = m := ⟨_, rfl, Int.emod_nonneg _ (by omega), Int.emod_lt_of_pos _ (by omega), Int.tmod_eq_emod_of_nonneg (by omega)⟩
      have hp : p < d.length := by omega
      have hp1 : pd < (d.length : Int) := by omega
      have HE := Lib.hid (show (apost ⟨d, (p : Int), pp, tk, tp, pd⟩ v).ents = d.set p (v, pp) by rw [HP.out.1]; unfold aput; simp only [Int.toNat_natCast])
      have e1 : IntKind.i64.wrap ((p : Int) + 1) = (p : Int) + 1 := IntWalk.i64_in _ (by omega)
      have e2 : IntKind.i64.wrap (pd + 1) = pd + 1 := IntWalk.i64_in _ (by omega)
      have hzn : ((d.length : Int) == 0) = false := beq_eq_false_iff_ne.2 (by omega)
      have i1 : (0 : Int) ≤ (p : Int) := by omega
      have i2 : (p : Int) < (d.length : Int) := by omega
      clear hv hf
      by_cases hz : m = 0
      · have hbz : (m == 0) = true := beq_iff_eq.2 hz
        have HF := Lib.hid (show postV ⟨d, (p : Int), pp, tk, tp, pd⟩ v = fun x => .tuple #[ansR m (!pp) tk tp (pd + 1) x, .bool true] by unfold postV; rw [HP.out.1, HP.out.2]; unfold aput ansW; simp only [Ans.n, hm]; rw [decide_eq_true hz]; cases pp <;> rfl)
        clear hm hz
        have hn1 := below_new w (.cells #[.slice A d.length c, .int .i64 (p : Int), .bool pp, .int .i64 tk, .bool tp, .int .i64 pd] 24)
        replace h := h.below hn1 (by omega)
        replace hB := below_later hB hn1 (by omega)
        clear hn1
        have s1 : w.heap.size < (w.alloc (.cells #[.slice A d.length c, .int .i64 (p : Int), .bool pp, .int .i64 tk, .bool tp, .int .i64 pd] 24)).heap.size := Nat.lt_of_lt_of_eq (Nat.lt_succ_self _) (World.size_alloc _ _).symm
        have ra : (w.alloc (.cells #[.slice A d.length c, .int .i64 (p : Int), .bool pp, .int .i64 tk, .bool tp, .int .i64 pd] 24)).heap[w.heap.size]? = some (.cells #[.slice A d.length c, .int .i64 (p : Int), .bool pp, .int .i64 tk, .bool tp, .int .i64 pd] 24 (0, 0)) := by have q := heap_alloc_new w (.cells #[.slice A d.length c, .int .i64 (p : Int), .bool pp, .int .i64 tk, .bool tp, .int .i64 pd] 24); (try simp only [World.size_alloc, World.size_setCell] at q); exact q
        have ma1_0 : (w.alloc (.cells #[.slice A d.length c, .int .i64 (p : Int), .bool pp, .int .i64 tk, .bool tp, .int .i64 pd] 24)).cell? ⟨w.heap.size, 0, none⟩ = some (.slice A d.length c) := cell_of_row _ _ 0 _ _ _ ra
        have ma1_1 : (w.alloc (.cells #[.slice A d.length c, .int .i64 (p : Int), .bool pp, .int .i64 tk, .bool tp, .int .i64 pd] 24)).cell? ⟨w.heap.size, 1, none⟩ = some (.int .i64 (p : Int)) := cell_of_row _ _ 1 _ _ _ ra
        have ma1_2 : (w.alloc (.cells #[.slice A d.length c, .int .i64 (p : Int), .bool pp, .int .i64 tk, .bool tp, .int .i64 pd] 24)).cell? ⟨w.heap.size, 2, none⟩ = some (.bool pp) := cell_of_row _ _ 2 _ _ _ ra
        have ma1_3 : (w.alloc (.cells #[.slice A d.length c, .int .i64 (p : Int), .bool pp, .int .i64 tk, .bool tp, .int .i64 pd] 24)).cell? ⟨w.heap.size, 3, none⟩ = some (.int .i64 tk) := cell_of_row _ _ 3 _ _ _ ra
        have ma1_4 : (w.alloc (.cells #[.slice A d.length c, .int .i64 (p : Int), .bool pp, .int .i64 tk, .bool tp, .int .i64 pd] 24)).cell? ⟨w.heap.size, 4, none⟩ = some (.bool tp) := cell_of_row _ _ 4 _ _ _ ra
        have ma1_5 : (w.alloc (.cells #[.slice A d.length c, .int .i64 (p : Int), .bool pp, .int .i64 tk, .bool tp, .int .i64 pd] 24)).cell? ⟨w.heap.size, 5, none⟩ = some (.int .i64 pd) := cell_of_row _ _ 5 _ _ _ ra
        have hn2 := below_new (w.alloc (.cells #[.slice A d.length c, .int .i64 (p : Int), .bool pp, .int .i64 tk, .bool tp, .int .i64 pd] 24)) (.cells #[.slice none 0 0, .int .i64 0, .bool false, .int .i64 0, .bool false, .int .i64 0] 24)
        replace ra := rowKeep ra hn2
        replace h := h.below hn2 (by omega)
        replace hB := below_later hB hn2 (by omega)
        have ma2_0 : ((w.alloc (.cells #[.slice A d.length c, .int .i64 (p : Int), .bool pp, .int .i64 tk, .bool tp, .int .i64 pd] 24)).alloc (.cells #[.slice none 0 0, .int .i64 0, .bool false, .int .i64 0, .bool false, .int .i64 0] 24)).cell? ⟨w.heap.size, 0, none⟩ = some (.slice A d.length c) := cell_of_row _ _ 0 _ _ _ ra
        have ma2_1 : ((w.alloc (.cells #[.slice A d.length c, .int .i64 (p : Int), .bool pp, .int .i64 tk, .bool tp, .int .i64 pd] 24)).alloc (.cells #[.slice none 0 0, .int .i64 0, .bool false, .int .i64 0, .bool false, .int .i64 0] 24)).cell? ⟨w.heap.size, 1, none⟩ = some (.int .i64 (p : Int)) := cell_of_row _ _ 1 _ _ _ ra
        have ma2_2 : ((w.alloc (.cells #[.slice A d.length c, .int .i64 (p : Int), .bool pp, .int .i64 tk, .bool tp, .int .i64 pd] 24)).alloc (.cells #[.slice none 0 0, .int .i64 0, .bool false, .int .i64 0, .bool false, .int .i64 0] 24)).cell? ⟨w.heap.size, 2, none⟩ = some (.bool pp) := cell_of_row _ _ 2 _ _ _ ra
        have ma2_3 : ((w.alloc (.cells #[.slice A d.length c, .int .i64 (p : Int), .bool pp, .int .i64 tk, .bool tp, .int .i64 pd] 24)).alloc (.cells #[.slice none 0 0, .int .i64 0, .bool false, .int .i64 0, .bool false, .int .i64 0] 24)).cell? ⟨w.heap.size, 3, none⟩ = some (.int .i64 tk) := cell_of_row _ _ 3 _ _ _ ra
        have ma2_4 : ((w.alloc (.cells #[.slice A d.length c, .int .i64 (p : Int), .bool pp, .int .i64 tk, .bool tp, .int .i64 pd] 24)).alloc (.cells #[.slice none 0 0, .int .i64 0, .bool false, .int .i64 0, .bool false, .int .i64 0] 24)).cell? ⟨w.heap.size, 4, none⟩ = some (.bool tp) := cell_of_row _ _ 4 _ _ _ ra
        have ma2_5 : ((w.alloc (.cells #[.slice A d.length c, .int .i64 (p : Int), .bool pp, .int .i64 tk, .bool tp, .int .i64 pd] 24)).alloc (.cells #[.slice none 0 0, .int .i64 0, .bool false, .int .i64 0, .bool false, .int .i64 0] 24)).cell? ⟨w.heap.size, 5, none⟩ = some (.int .i64 pd) := cell_of_row _ _ 5 _ _ _ ra
        clear hn2
        have s2 : (w.alloc (.cells #[.slice A d.length c, .int .i64 (p : Int), .bool pp, .int .i64 tk, .bool tp, .int .i64 pd] 24)).heap.size < ((w.alloc (.cells #[.slice A d.length c, .int .i64 (p : Int), .bool pp, .int .i64 tk, .bool tp, .int .i64 pd] 24)).alloc (.cells #[.slice none 0 0, .int .i64 0, .bool false, .int .i64 0, .bool false, .int .i64 0] 24)).heap.size := Nat.lt_of_lt_of_eq (Nat.lt_succ_self _) (World.size_alloc _ _).symm
        have rr : ((w.alloc (.cells #[.slice A d.length c, .int .i64 (p : Int), .bool pp, .int .i64 tk, .bool tp, .int .i64 pd] 24)).alloc (.cells #[.slice none 0 0, .int .i64 0, .bool false, .int .i64 0, .bool false, .int .i64 0] 24)).heap[w.heap.size + 1]? = some (.cells #[.slice none 0 0, .int .i64 0, .bool false, .int .i64 0, .bool false, .int .i64 0] 24 (0, 0)) := by have q := heap_alloc_new (w.alloc (.cells #[.slice A d.length c, .int .i64 (p : Int), .bool pp, .int .i64 tk, .bool tp, .int .i64 pd] 24)) (.cells #[.slice none 0 0, .int .i64 0, .bool false, .int .i64 0, .bool false, .int .i64 0] 24); (try simp only [World.size_alloc, World.size_setCell] at q); exact q
        have mr1_0 : ((w.alloc (.cells #[.slice A d.length c, .int .i64 (p : Int), .bool pp, .int .i64 tk, .bool tp, .int .i64 pd] 24)).alloc (.cells #[.slice none 0 0, .int .i64 0, .bool false, .int .i64 0, .bool false, .int .i64 0] 24)).cell? ⟨w.heap.size + 1, 0, none⟩ = some (.slice none 0 0) := cell_of_row _ _ 0 _ _ _ rr
        have mr1_1 : ((w.alloc (.cells #[.slice A d.length c, .int .i64 (p : Int), .bool pp, .int .i64 tk, .bool tp, .int .i64 pd] 24)).alloc (.cells #[.slice none 0 0, .int .i64 0, .bool false, .int .i64 0, .bool false, .int .i64 0] 24)).cell? ⟨w.heap.size + 1, 1, none⟩ = some (.int .i64 0) := cell_of_row _ _ 1 _ _ _ rr
        have mr1_2 : ((w.alloc (.cells #[.slice A d.length c, .int .i64 (p : Int), .bool pp, .int .i64 tk, .bool tp, .int .i64 pd] 24)).alloc (.cells #[.slice none 0 0, .int .i64 0, .bool false, .int .i64 0, .bool false, .int .i64 0] 24)).cell? ⟨w.heap.size + 1, 2, none⟩ = some (.bool false) := cell_of_row _ _ 2 _ _ _ rr
        have mr1_3 : ((w.alloc (.cells #[.slice A d.length c, .int .i64 (p : Int), .bool pp, .int .i64 tk, .bool tp, .int .i64 pd] 24)).alloc (.cells #[.slice none 0 0, .int .i64 0, .bool false, .int .i64 0, .bool false, .int .i64 0] 24)).cell? ⟨w.heap.size + 1, 3, none⟩ = some (.int .i64 0) := cell_of_row _ _ 3 _ _ _ rr
        have mr1_4 : ((w.alloc (.cells #[.slice A d.length c, .int .i64 (p : Int), .bool pp, .int .i64 tk, .bool tp, .int .i64 pd] 24)).alloc (.cells #[.slice none 0 0, .int .i64 0, .bool false, .int .i64 0, .bool false, .int .i64 0] 24)).cell? ⟨w.heap.size + 1, 4, none⟩ = some (.bool false) := cell_of_row _ _ 4 _ _ _ rr
        have mr1_5 : ((w.alloc (.cells #[.slice A d.length c, .int .i64 (p : Int), .bool pp, .int .i64 tk, .bool tp, .int .i64 pd] 24)).alloc (.cells #[.slice none 0 0, .int .i64 0, .bool false, .int .i64 0, .bool false, .int .i64 0] 24)).cell? ⟨w.heap.size + 1, 5, none⟩ = some (.int .i64 0) := cell_of_row _ _ 5 _ _ _ rr
        go_enter Try.func24, Try.ntmps24
        go_wp2_with fail
        clear ma1_0 ma1_1 ma1_2 ma1_3 ma1_4 ma1_5
        generalize (w.alloc (.cells #[.slice A d.length c, .int .i64 (p : Int), .bool pp, .int .i64 tk, .bool tp, .int .i64 pd] 24)) = u1 at *
        generalize (u1.alloc (.cells #[.slice none 0 0, .int .i64 0, .bool false, .int .i64 0, .bool false, .int .i64 0] 24)) = u2 at *
        have q := implAnswersValid_any A d.length c _ d (p : Int) pp tk tp pd u2 h (by omega)
        rw [HV.out] at q
        refine q.mono ?_
        clear q
        rintro e w3 ⟨rfl, b3⟩
        have s3 := b3.size
        clear ma2_0 ma2_1 ma2_2 ma2_3 ma2_4 ma2_5
        clear mr1_0 mr1_1 mr1_2 mr1_3 mr1_4 mr1_5
        replace ra := rowKeep ra b3
        replace rr := rowKeep rr b3
        replace h := h.below b3 (by omega)
        replace hB := below_later hB b3 (by omega)
        have ma3_0 : w3.cell? ⟨w.heap.size, 0, none⟩ = some (.slice A d.length c) := cell_of_row _ _ 0 _ _ _ ra
        have ma3_1 : w3.cell? ⟨w.heap.size, 1, none⟩ = some (.int .i64 (p : Int)) := cell_of_row _ _ 1 _ _ _ ra
        have ma3_2 : w3.cell? ⟨w.heap.size, 2, none⟩ = some (.bool pp) := cell_of_row _ _ 2 _ _ _ ra
        have ma3_3 : w3.cell? ⟨w.heap.size, 3, none⟩ = some (.int .i64 tk) := cell_of_row _ _ 3 _ _ _ ra
        have ma3_4 : w3.cell? ⟨w.heap.size, 4, none⟩ = some (.bool tp) := cell_of_row _ _ 4 _ _ _ ra
        have ma3_5 : w3.cell? ⟨w.heap.size, 5, none⟩ = some (.int .i64 pd) := cell_of_row _ _ 5 _ _ _ ra
        have mr2_0 : w3.cell? ⟨w.heap.size + 1, 0, none⟩ = some (.slice none 0 0) := cell_of_row _ _ 0 _ _ _ rr
        have mr2_1 : w3.cell? ⟨w.heap.size + 1, 1, none⟩ = some (.int .i64 0) := cell_of_row _ _ 1 _ _ _ rr
        have mr2_2 : w3.cell? ⟨w.heap.size + 1, 2, none⟩ = some (.bool false) := cell_of_row _ _ 2 _ _ _ rr
        have mr2_3 : w3.cell? ⟨w.heap.size + 1, 3, none⟩ = some (.int .i64 0) := cell_of_row _ _ 3 _ _ _ rr
        have mr2_4 : w3.cell? ⟨w.heap.size + 1, 4, none⟩ = some (.bool false) := cell_of_row _ _ 4 _ _ _ rr
        have mr2_5 : w3.cell? ⟨w.heap.size + 1, 5, none⟩ = some (.int .i64 0) := cell_of_row _ _ 5 _ _ _ rr
        clear b3
        go_wp2_with fail
        have q := cloneA_any A d.length c _ (ansC d) w3 h (ansC_one d) (by omega) (by omega)
        refine q.mono ?_
        clear q
        rintro e w4 ⟨A2, c2, rfl, o2, b4⟩
        have s4 := b4.size
        clear ma3_0 ma3_1 ma3_2 ma3_3 ma3_4 ma3_5
        clear mr2_0 mr2_1 mr2_2 mr2_3 mr2_4 mr2_5
        replace ra := rowKeep ra b4
        replace rr := rowKeep rr b4
        replace h := h.below b4 (by omega)
        replace hB := below_later hB b4 (by omega)
        have ma4_0 : w4.cell? ⟨w.heap.size, 0, none⟩ = some (.slice A d.length c) := cell_of_row _ _ 0 _ _ _ ra
        have ma4_1 : w4.cell? ⟨w.heap.size, 1, none⟩ = some (.int .i64 (p : Int)) := cell_of_row _ _ 1 _ _ _ ra
        have ma4_2 : w4.cell? ⟨w.heap.size, 2, none⟩ = some (.bool pp) := cell_of_row _ _ 2 _ _ _ ra
        have ma4_3 : w4.cell? ⟨w.heap.size, 3, none⟩ = some (.int .i64 tk) := cell_of_row _ _ 3 _ _ _ ra
        have ma4_4 : w4.cell? ⟨w.heap.size, 4, none⟩ = some (.bool tp) := cell_of_row _ _ 4 _ _ _ ra
        have ma4_5 : w4.cell? ⟨w.heap.size, 5, none⟩ = some (.int .i64 pd) := cell_of_row _ _ 5 _ _ _ ra
        have mr3_0 : w4.cell? ⟨w.heap.size + 1, 0, none⟩ = some (.slice none 0 0) := cell_of_row _ _ 0 _ _ _ rr
        have mr3_1 : w4.cell? ⟨w.heap.size + 1, 1, none⟩ = some (.int .i64 0) := cell_of_row _ _ 1 _ _ _ rr
        have mr3_2 : w4.cell? ⟨w.heap.size + 1, 2, none⟩ = some (.bool false) := cell_of_row _ _ 2 _ _ _ rr
        have mr3_3 : w4.cell? ⟨w.heap.size + 1, 3, none⟩ = some (.int .i64 0) := cell_of_row _ _ 3 _ _ _ rr
        have mr3_4 : w4.cell? ⟨w.heap.size + 1, 4, none⟩ = some (.bool false) := cell_of_row _ _ 4 _ _ _ rr
        have mr3_5 : w4.cell? ⟨w.heap.size + 1, 5, none⟩ = some (.int .i64 0) := cell_of_row _ _ 5 _ _ _ rr
        clear b4
        have z5 := frzRow ra 0
        replace rr := rowSet rr ⟨w.heap.size, 0, none⟩ (.slice A2 d.length c2) (by show _ ≠ w.heap.size; omega)
        replace ra : (w4.setCell ⟨w.heap.size, 0, none⟩ (.slice A2 d.length c2)).heap[w.heap.size]? = some (.cells #[.slice A2 d.length c2, .int .i64 (p : Int), .bool pp, .int .i64 tk, .bool tp, .int .i64 pd] 24 (0, 0)) := by rw [heap_setCell_same _ _ 0 _ _ _ ra]; rfl
        replace o2 := o2.setOther ⟨w.heap.size, 0, none⟩ (.slice A2 d.length c2) (by show w.heap.size < _ ∨ _ ≤ w.heap.size; omega)
        replace h := h.setOther ⟨w.heap.size, 0, none⟩ (.slice A2 d.length c2) (by show _ ≤ w.heap.size; omega)
        replace hB := hB.setCell (p := ⟨w.heap.size, 0, none⟩) (by show _ ≤ w.heap.size; omega) (.slice A2 d.length c2)
        have s5 : w4.heap.size ≤ (w4.setCell ⟨w.heap.size, 0, none⟩ (.slice A2 d.length c2)).heap.size := Nat.le_of_eq (World.size_setCell _ _ _).symm
        have ma5_0 : (w4.setCell ⟨w.heap.size, 0, none⟩ (.slice A2 d.length c2)).cell? ⟨w.heap.size, 0, none⟩ = some (.slice A2 d.length c2) := cell_of_row _ _ 0 _ _ _ ra
        have ma5_1 : (w4.setCell ⟨w.heap.size, 0, none⟩ (.slice A2 d.length c2)).cell? ⟨w.heap.size, 1, none⟩ = some (.int .i64 (p : Int)) := cell_of_row _ _ 1 _ _ _ ra
        have ma5_2 : (w4.setCell ⟨w.heap.size, 0, none⟩ (.slice A2 d.length c2)).cell? ⟨w.heap.size, 2, none⟩ = some (.bool pp) := cell_of_row _ _ 2 _ _ _ ra
        have ma5_3 : (w4.setCell ⟨w.heap.size, 0, none⟩ (.slice A2 d.length c2)).cell? ⟨w.heap.size, 3, none⟩ = some (.int .i64 tk) := cell_of_row _ _ 3 _ _ _ ra
        have ma5_4 : (w4.setCell ⟨w.heap.size, 0, none⟩ (.slice A2 d.length c2)).cell? ⟨w.heap.size, 4, none⟩ = some (.bool tp) := cell_of_row _ _ 4 _ _ _ ra
        have ma5_5 : (w4.setCell ⟨w.heap.size, 0, none⟩ (.slice A2 d.length c2)).cell? ⟨w.heap.size, 5, none⟩ = some (.int .i64 pd) := cell_of_row _ _ 5 _ _ _ ra
        have mr4_0 : (w4.setCell ⟨w.heap.size, 0, none⟩ (.slice A2 d.length c2)).cell? ⟨w.heap.size + 1, 0, none⟩ = some (.slice none 0 0) := cell_of_row _ _ 0 _ _ _ rr
        have mr4_1 : (w4.setCell ⟨w.heap.size, 0, none⟩ (.slice A2 d.length c2)).cell? ⟨w.heap.size + 1, 1, none⟩ = some (.int .i64 0) := cell_of_row _ _ 1 _ _ _ rr
        have mr4_2 : (w4.setCell ⟨w.heap.size, 0, none⟩ (.slice A2 d.length c2)).cell? ⟨w.heap.size + 1, 2, none⟩ = some (.bool false) := cell_of_row _ _ 2 _ _ _ rr
        have mr4_3 : (w4.setCell ⟨w.heap.size, 0, none⟩ (.slice A2 d.length c2)).cell? ⟨w.heap.size + 1, 3, none⟩ = some (.int .i64 0) := cell_of_row _ _ 3 _ _ _ rr
        have mr4_4 : (w4.setCell ⟨w.heap.size, 0, none⟩ (.slice A2 d.length c2)).cell? ⟨w.heap.size + 1, 4, none⟩ = some (.bool false) := cell_of_row _ _ 4 _ _ _ rr
        have mr4_5 : (w4.setCell ⟨w.heap.size, 0, none⟩ (.slice A2 d.length c2)).cell? ⟨w.heap.size + 1, 5, none⟩ = some (.int .i64 0) := cell_of_row _ _ 5 _ _ _ rr
        go_upto_region 4 with fail
        clear z5 ma4_0 ma4_1 ma4_2 ma4_3 ma4_4 ma4_5 mr3_0 mr3_1 mr3_2 mr3_3 mr3_4 mr3_5
        generalize (w4.setCell ⟨w.heap.size, 0, none⟩ (.slice A2 d.length c2)) = u5 at *
        have hA2 := o2.head (by omega)
        obtain ⟨g2, hA, hg1, hg2, hg3⟩ := hA2
        subst hA
        have hxl : (ansC d).length = d.length * 2 := ansC_length d
        have y0 := o2.cell rfl (p * 2) _ (List.getElem?_eq_getElem (by omega))
        have y1 := o2.cell rfl (p * 2 + 1) _ (List.getElem?_eq_getElem (by omega))
        have z0 := o2.frozen rfl (p * 2)
        have z1 := o2.frozen rfl (p * 2 + 1)
        replace ra := rowSet ra ⟨g2, p * 2, none⟩ (.int .i64 v) (by show _ ≠ g2; omega)
        replace rr := rowSet rr ⟨g2, p * 2, none⟩ (.int .i64 v) (by show _ ≠ g2; omega)
        replace o2 := o2.set rfl (p * 2) (.int .i64 v)
        replace h := h.setOther ⟨g2, p * 2, none⟩ (.int .i64 v) (by show _ ≤ g2; omega)
        replace hB := hB.setCell (p := ⟨g2, p * 2, none⟩) (by show _ ≤ g2; omega) (.int .i64 v)
        have s6 : u5.heap.size ≤ (u5.setCell ⟨g2, p * 2, none⟩ (.int .i64 v)).heap.size := Nat.le_of_eq (World.size_setCell _ _ _).symm
        have ma6_0 : (u5.setCell ⟨g2, p * 2, none⟩ (.int .i64 v)).cell? ⟨w.heap.size, 0, none⟩ = some (.slice (some ⟨g2, 0, none⟩) d.length c2) := cell_of_row _ _ 0 _ _ _ ra
        have ma6_1 : (u5.setCell ⟨g2, p * 2, none⟩ (.int .i64 v)).cell? ⟨w.heap.size, 1, none⟩ = some (.int .i64 (p : Int)) := cell_of_row _ _ 1 _ _ _ ra
        have ma6_2 : (u5.setCell ⟨g2, p * 2, none⟩ (.int .i64 v)).cell? ⟨w.heap.size, 2, none⟩ = some (.bool pp) := cell_of_row _ _ 2 _ _ _ ra
        have ma6_3 : (u5.setCell ⟨g2, p * 2, none⟩ (.int .i64 v)).cell? ⟨w.heap.size, 3, none⟩ = some (.int .i64 tk) := cell_of_row _ _ 3 _ _ _ ra
        have ma6_4 : (u5.setCell ⟨g2, p * 2, none⟩ (.int .i64 v)).cell? ⟨w.heap.size, 4, none⟩ = some (.bool tp) := cell_of_row _ _ 4 _ _ _ ra
        have ma6_5 : (u5.setCell ⟨g2, p * 2, none⟩ (.int .i64 v)).cell? ⟨w.heap.size, 5, none⟩ = some (.int .i64 pd) := cell_of_row _ _ 5 _ _ _ ra
        have mr5_0 : (u5.setCell ⟨g2, p * 2, none⟩ (.int .i64 v)).cell? ⟨w.heap.size + 1, 0, none⟩ = some (.slice none 0 0) := cell_of_row _ _ 0 _ _ _ rr
        have mr5_1 : (u5.setCell ⟨g2, p * 2, none⟩ (.int .i64 v)).cell? ⟨w.heap.size + 1, 1, none⟩ = some (.int .i64 0) := cell_of_row _ _ 1 _ _ _ rr
        have mr5_2 : (u5.setCell ⟨g2, p * 2, none⟩ (.int .i64 v)).cell? ⟨w.heap.size + 1, 2, none⟩ = some (.bool false) := cell_of_row _ _ 2 _ _ _ rr
        have mr5_3 : (u5.setCell ⟨g2, p * 2, none⟩ (.int .i64 v)).cell? ⟨w.heap.size + 1, 3, none⟩ = some (.int .i64 0) := cell_of_row _ _ 3 _ _ _ rr
        have mr5_4 : (u5.setCell ⟨g2, p * 2, none⟩ (.int .i64 v)).cell? ⟨w.heap.size + 1, 4, none⟩ = some (.bool false) := cell_of_row _ _ 4 _ _ _ rr
        have mr5_5 : (u5.setCell ⟨g2, p * 2, none⟩ (.int .i64 v)).cell? ⟨w.heap.size + 1, 5, none⟩ = some (.int .i64 0) := cell_of_row _ _ 5 _ _ _ rr
        replace ra := rowSet ra ⟨g2, p * 2 + 1, none⟩ (.bool pp) (by show _ ≠ g2; omega)
        replace rr := rowSet rr ⟨g2, p * 2 + 1, none⟩ (.bool pp) (by show _ ≠ g2; omega)
        replace o2 := o2.set rfl (p * 2 + 1) (.bool pp)
        replace h := h.setOther ⟨g2, p * 2 + 1, none⟩ (.bool pp) (by show _ ≤ g2; omega)
        replace hB := hB.setCell (p := ⟨g2, p * 2 + 1, none⟩) (by show _ ≤ g2; omega) (.bool pp)
        have s7 : (u5.setCell ⟨g2, p * 2, none⟩ (.int .i64 v)).heap.size ≤ ((u5.setCell ⟨g2, p * 2, none⟩ (.int .i64 v)).setCell ⟨g2, p * 2 + 1, none⟩ (.bool pp)).heap.size := Nat.le_of_eq (World.size_setCell _ _ _).symm
        have ma7_0 : ((u5.setCell ⟨g2, p * 2, none⟩ (.int .i64 v)).setCell ⟨g2, p * 2 + 1, none⟩ (.bool pp)).cell? ⟨w.heap.size, 0, none⟩ = some (.slice (some ⟨g2, 0, none⟩) d.length c2) := cell_of_row _ _ 0 _ _ _ ra
        have ma7_1 : ((u5.setCell ⟨g2, p * 2, none⟩ (.int .i64 v)).setCell ⟨g2, p * 2 + 1, none⟩ (.bool pp)).cell? ⟨w.heap.size, 1, none⟩ = some (.int .i64 (p : Int)) := cell_of_row _ _ 1 _ _ _ ra
        have ma7_2 : ((u5.setCell ⟨g2, p * 2, none⟩ (.int .i64 v)).setCell ⟨g2, p * 2 + 1, none⟩ (.bool pp)).cell? ⟨w.heap.size, 2, none⟩ = some (.bool pp) := cell_of_row _ _ 2 _ _ _ ra
        have ma7_3 : ((u5.setCell ⟨g2, p * 2, none⟩ (.int .i64 v)).setCell ⟨g2, p * 2 + 1, none⟩ (.bool pp)).cell? ⟨w.heap.size, 3, none⟩ = some (.int .i64 tk) := cell_of_row _ _ 3 _ _ _ ra
        have ma7_4 : ((u5.setCell ⟨g2, p * 2, none⟩ (.int .i64 v)).setCell ⟨g2, p * 2 + 1, none⟩ (.bool pp)).cell? ⟨w.heap.size, 4, none⟩ = some (.bool tp) := cell_of_row _ _ 4 _ _ _ ra
        have ma7_5 : ((u5.setCell ⟨g2, p * 2, none⟩ (.int .i64 v)).setCell ⟨g2, p * 2 + 1, none⟩ (.bool pp)).cell? ⟨w.heap.size, 5, none⟩ = some (.int .i64 pd) := cell_of_row _ _ 5 _ _ _ ra
        have mr6_0 : ((u5.setCell ⟨g2, p * 2, none⟩ (.int .i64 v)).setCell ⟨g2, p * 2 + 1, none⟩ (.bool pp)).cell? ⟨w.heap.size + 1, 0, none⟩ = some (.slice none 0 0) := cell_of_row _ _ 0 _ _ _ rr
        have mr6_1 : ((u5.setCell ⟨g2, p * 2, none⟩ (.int .i64 v)).setCell ⟨g2, p * 2 + 1, none⟩ (.bool pp)).cell? ⟨w.heap.size + 1, 1, none⟩ = some (.int .i64 0) := cell_of_row _ _ 1 _ _ _ rr
        have mr6_2 : ((u5.setCell ⟨g2, p * 2, none⟩ (.int .i64 v)).setCell ⟨g2, p * 2 + 1, none⟩ (.bool pp)).cell? ⟨w.heap.size + 1, 2, none⟩ = some (.bool false) := cell_of_row _ _ 2 _ _ _ rr
        have mr6_3 : ((u5.setCell ⟨g2, p * 2, none⟩ (.int .i64 v)).setCell ⟨g2, p * 2 + 1, none⟩ (.bool pp)).cell? ⟨w.heap.size + 1, 3, none⟩ = some (.int .i64 0) := cell_of_row _ _ 3 _ _ _ rr
        have mr6_4 : ((u5.setCell ⟨g2, p * 2, none⟩ (.int .i64 v)).setCell ⟨g2, p * 2 + 1, none⟩ (.bool pp)).cell? ⟨w.heap.size + 1, 4, none⟩ = some (.bool false) := cell_of_row _ _ 4 _ _ _ rr
        have mr6_5 : ((u5.setCell ⟨g2, p * 2, none⟩ (.int .i64 v)).setCell ⟨g2, p * 2 + 1, none⟩ (.bool pp)).cell? ⟨w.heap.size + 1, 5, none⟩ = some (.int .i64 0) := cell_of_row _ _ 5 _ _ _ rr
        have hset : ((ansC d).set (p * 2) (.int .i64 v)).set (p * 2 + 1) (.bool pp) = ansC (d.set p (v, pp)) := ansC_put d p hp v pp
        rw [hset] at o2
        clear hset
        go_upto_region 7 with fail
        clear y0 y1 z0 z1 ma5_0 ma5_1 ma5_2 ma5_3 ma5_4 ma5_5 mr4_0 mr4_1 mr4_2 mr4_3 mr4_4 mr4_5 ma6_0 ma6_1 ma6_2 ma6_3 ma6_4 ma6_5 mr5_0 mr5_1 mr5_2 mr5_3 mr5_4 mr5_5
        generalize (u5.setCell ⟨g2, p * 2, none⟩ (.int .i64 v)) = u6 at *
        generalize (u6.setCell ⟨g2, p * 2 + 1, none⟩ (.bool pp)) = u7 at *
        have z8 := frzRow ra 1
        replace rr := rowSet rr ⟨w.heap.size, 1, none⟩ (.int .i64 m) (by show _ ≠ w.heap.size; omega)
        replace ra : (u7.setCell ⟨w.heap.size, 1, none⟩ (.int .i64 m)).heap[w.heap.size]? = some (.cells #[.slice (some ⟨g2, 0, none⟩) d.length c2, .int .i64 m, .bool pp, .int .i64 tk, .bool tp, .int .i64 pd] 24 (0, 0)) := by rw [heap_setCell_same _ _ 1 _ _ _ ra]; rfl
        replace o2 := o2.setOther ⟨w.heap.size, 1, none⟩ (.int .i64 m) (by show w.heap.size < _ ∨ _ ≤ w.heap.size; omega)
        replace h := h.setOther ⟨w.heap.size, 1, none⟩ (.int .i64 m) (by show _ ≤ w.heap.size; omega)
        replace hB := hB.setCell (p := ⟨w.heap.size, 1, none⟩) (by show _ ≤ w.heap.size; omega) (.int .i64 m)
        have s8 : u7.heap.size ≤ (u7.setCell ⟨w.heap.size, 1, none⟩ (.int .i64 m)).heap.size := Nat.le_of_eq (World.size_setCell _ _ _).symm
        have ma8_0 : (u7.setCell ⟨w.heap.size, 1, none⟩ (.int .i64 m)).cell? ⟨w.heap.size, 0, none⟩ = some (.slice (some ⟨g2, 0, none⟩) d.length c2) := cell_of_row _ _ 0 _ _ _ ra
        have ma8_1 : (u7.setCell ⟨w.heap.size, 1, none⟩ (.int .i64 m)).cell? ⟨w.heap.size, 1, none⟩ = some (.int .i64 m) := cell_of_row _ _ 1 _ _ _ ra
        have ma8_2 : (u7.setCell ⟨w.heap.size, 1, none⟩ (.int .i64 m)).cell? ⟨w.heap.size, 2, none⟩ = some (.bool pp) := cell_of_row _ _ 2 _ _ _ ra
        have ma8_3 : (u7.setCell ⟨w.heap.size, 1, none⟩ (.int .i64 m)).cell? ⟨w.heap.size, 3, none⟩ = some (.int .i64 tk) := cell_of_row _ _ 3 _ _ _ ra
        have ma8_4 : (u7.setCell ⟨w.heap.size, 1, none⟩ (.int .i64 m)).cell? ⟨w.heap.size, 4, none⟩ = some (.bool tp) := cell_of_row _ _ 4 _ _ _ ra
        have ma8_5 : (u7.setCell ⟨w.heap.size, 1, none⟩ (.int .i64 m)).cell? ⟨w.heap.size, 5, none⟩ = some (.int .i64 pd) := cell_of_row _ _ 5 _ _ _ ra
        have mr7_0 : (u7.setCell ⟨w.heap.size, 1, none⟩ (.int .i64 m)).cell? ⟨w.heap.size + 1, 0, none⟩ = some (.slice none 0 0) := cell_of_row _ _ 0 _ _ _ rr
        have mr7_1 : (u7.setCell ⟨w.heap.size, 1, none⟩ (.int .i64 m)).cell? ⟨w.heap.size + 1, 1, none⟩ = some (.int .i64 0) := cell_of_row _ _ 1 _ _ _ rr
        have mr7_2 : (u7.setCell ⟨w.heap.size, 1, none⟩ (.int .i64 m)).cell? ⟨w.heap.size + 1, 2, none⟩ = some (.bool false) := cell_of_row _ _ 2 _ _ _ rr
        have mr7_3 : (u7.setCell ⟨w.heap.size, 1, none⟩ (.int .i64 m)).cell? ⟨w.heap.size + 1, 3, none⟩ = some (.int .i64 0) := cell_of_row _ _ 3 _ _ _ rr
        have mr7_4 : (u7.setCell ⟨w.heap.size, 1, none⟩ (.int .i64 m)).cell? ⟨w.heap.size + 1, 4, none⟩ = some (.bool false) := cell_of_row _ _ 4 _ _ _ rr
        have mr7_5 : (u7.setCell ⟨w.heap.size, 1, none⟩ (.int .i64 m)).cell? ⟨w.heap.size + 1, 5, none⟩ = some (.int .i64 0) := cell_of_row _ _ 5 _ _ _ rr
        go_upto_region 8 with fail
        clear z8 ma7_0 ma7_1 ma7_2 ma7_3 ma7_4 ma7_5 mr6_0 mr6_1 mr6_2 mr6_3 mr6_4 mr6_5
        generalize (u7.setCell ⟨w.heap.size, 1, none⟩ (.int .i64 m)) = u8 at *
        have z9 := frzRow ra 2
        replace rr := rowSet rr ⟨w.heap.size, 2, none⟩ (.bool (!pp)) (by show _ ≠ w.heap.size; omega)
        replace ra : (u8.setCell ⟨w.heap.size, 2, none⟩ (.bool (!pp))).heap[w.heap.size]? = some (.cells #[.slice (some ⟨g2, 0, none⟩) d.length c2, .int .i64 m, .bool (!pp), .int .i64 tk, .bool tp, .int .i64 pd] 24 (0, 0)) := by rw [heap_setCell_same _ _ 2 _ _ _ ra]; rfl
        replace o2 := o2.setOther ⟨w.heap.size, 2, none⟩ (.bool (!pp)) (by show w.heap.size < _ ∨ _ ≤ w.heap.size; omega)
        replace h := h.setOther ⟨w.heap.size, 2, none⟩ (.bool (!pp)) (by show _ ≤ w.heap.size; omega)
        replace hB := hB.setCell (p := ⟨w.heap.size, 2, none⟩) (by show _ ≤ w.heap.size; omega) (.bool (!pp))
        have s9 : u8.heap.size ≤ (u8.setCell ⟨w.heap.size, 2, none⟩ (.bool (!pp))).heap.size := Nat.le_of_eq (World.size_setCell _ _ _).symm
        have ma9_0 : (u8.setCell ⟨w.heap.size, 2, none⟩ (.bool (!pp))).cell? ⟨w.heap.size, 0, none⟩ = some (.slice (some ⟨g2, 0, none⟩) d.length c2) := cell_of_row _ _ 0 _ _ _ ra
        have ma9_1 : (u8.setCell ⟨w.heap.size, 2, none⟩ (.bool (!pp))).cell? ⟨w.heap.size, 1, none⟩ = some (.int .i64 m) := cell_of_row _ _ 1 _ _ _ ra
        have ma9_2 : (u8.setCell ⟨w.heap.size, 2, none⟩ (.bool (!pp))).cell? ⟨w.heap.size, 2, none⟩ = some (.bool (!pp)) := cell_of_row _ _ 2 _ _ _ ra
        have ma9_3 : (u8.setCell ⟨w.heap.size, 2, none⟩ (.bool (!pp))).cell? ⟨w.heap.size, 3, none⟩ = some (.int .i64 tk) := cell_of_row _ _ 3 _ _ _ ra
        have ma9_4 : (u8.setCell ⟨w.heap.size, 2, none⟩ (.bool (!pp))).cell? ⟨w.heap.size, 4, none⟩ = some (.bool tp) := cell_of_row _ _ 4 _ _ _ ra
        have ma9_5 : (u8.setCell ⟨w.heap.size, 2, none⟩ (.bool (!pp))).cell? ⟨w.heap.size, 5, none⟩ = some (.int .i64 pd) := cell_of_row _ _ 5 _ _ _ ra
        have mr8_0 : (u8.setCell ⟨w.heap.size, 2, none⟩ (.bool (!pp))).cell? ⟨w.heap.size + 1, 0, none⟩ = some (.slice none 0 0) := cell_of_row _ _ 0 _ _ _ rr
        have mr8_1 : (u8.setCell ⟨w.heap.size, 2, none⟩ (.bool (!pp))).cell? ⟨w.heap.size + 1, 1, none⟩ = some (.int .i64 0) := cell_of_row _ _ 1 _ _ _ rr
        have mr8_2 : (u8.setCell ⟨w.heap.size, 2, none⟩ (.bool (!pp))).cell? ⟨w.heap.size + 1, 2, none⟩ = some (.bool false) := cell_of_row _ _ 2 _ _ _ rr
        have mr8_3 : (u8.setCell ⟨w.heap.size, 2, none⟩ (.bool (!pp))).cell? ⟨w.heap.size + 1, 3, none⟩ = some (.int .i64 0) := cell_of_row _ _ 3 _ _ _ rr
        have mr8_4 : (u8.setCell ⟨w.heap.size, 2, none⟩ (.bool (!pp))).cell? ⟨w.heap.size + 1, 4, none⟩ = some (.bool false) := cell_of_row _ _ 4 _ _ _ rr
        have mr8_5 : (u8.setCell ⟨w.heap.size, 2, none⟩ (.bool (!pp))).cell? ⟨w.heap.size + 1, 5, none⟩ = some (.int .i64 0) := cell_of_row _ _ 5 _ _ _ rr
        go_upto_region 9 with fail
        clear z9 ma8_0 ma8_1 ma8_2 ma8_3 ma8_4 ma8_5 mr7_0 mr7_1 mr7_2 mr7_3 mr7_4 mr7_5
        generalize (u8.setCell ⟨w.heap.size, 2, none⟩ (.bool (!pp))) = u9 at *
        have z10 := frzRow ra 5
        replace rr := rowSet rr ⟨w.heap.size, 5, none⟩ (.int .i64 (pd + 1)) (by show _ ≠ w.heap.size; omega)
        replace ra : (u9.setCell ⟨w.heap.size, 5, none⟩ (.int .i64 (pd + 1))).heap[w.heap.size]? = some (.cells #[.slice (some ⟨g2, 0, none⟩) d.length c2, .int .i64 m, .bool (!pp), .int .i64 tk, .bool tp, .int .i64 (pd + 1)] 24 (0, 0)) := by rw [heap_setCell_same _ _ 5 _ _ _ ra]; rfl
        replace o2 := o2.setOther ⟨w.heap.size, 5, none⟩ (.int .i64 (pd + 1)) (by show w.heap.size < _ ∨ _ ≤ w.heap.size; omega)
        replace h := h.setOther ⟨w.heap.size, 5, none⟩ (.int .i64 (pd + 1)) (by show _ ≤ w.heap.size; omega)
        replace hB := hB.setCell (p := ⟨w.heap.size, 5, none⟩) (by show _ ≤ w.heap.size; omega) (.int .i64 (pd + 1))
        have s10 : u9.heap.size ≤ (u9.setCell ⟨w.heap.size, 5, none⟩ (.int .i64 (pd + 1))).heap.size := Nat.le_of_eq (World.size_setCell _ _ _).symm
        have ma10_0 : (u9.setCell ⟨w.heap.size, 5, none⟩ (.int .i64 (pd + 1))).cell? ⟨w.heap.size, 0, none⟩ = some (.slice (some ⟨g2, 0, none⟩) d.length c2) := cell_of_row _ _ 0 _ _ _ ra
        have ma10_1 : (u9.setCell ⟨w.heap.size, 5, none⟩ (.int .i64 (pd + 1))).cell? ⟨w.heap.size, 1, none⟩ = some (.int .i64 m) := cell_of_row _ _ 1 _ _ _ ra
        have ma10_2 : (u9.setCell ⟨w.heap.size, 5, none⟩ (.int .i64 (pd + 1))).cell? ⟨w.heap.size, 2, none⟩ = some (.bool (!pp)) := cell_of_row _ _ 2 _ _ _ ra
        have ma10_3 : (u9.setCell ⟨w.heap.size, 5, none⟩ (.int .i64 (pd + 1))).cell? ⟨w.heap.size, 3, none⟩ = some (.int .i64 tk) := cell_of_row _ _ 3 _ _ _ ra
        have ma10_4 : (u9.setCell ⟨w.heap.size, 5, none⟩ (.int .i64 (pd + 1))).cell? ⟨w.heap.size, 4, none⟩ = some (.bool tp) := cell_of_row _ _ 4 _ _ _ ra
        have ma10_5 : (u9.setCell ⟨w.heap.size, 5, none⟩ (.int .i64 (pd + 1))).cell? ⟨w.heap.size, 5, none⟩ = some (.int .i64 (pd + 1)) := cell_of_row _ _ 5 _ _ _ ra
        have mr9_0 : (u9.setCell ⟨w.heap.size, 5, none⟩ (.int .i64 (pd + 1))).cell? ⟨w.heap.size + 1, 0, none⟩ = some (.slice none 0 0) := cell_of_row _ _ 0 _ _ _ rr
        have mr9_1 : (u9.setCell ⟨w.heap.size, 5, none⟩ (.int .i64 (pd + 1))).cell? ⟨w.heap.size + 1, 1, none⟩ = some (.int .i64 0) := cell_of_row _ _ 1 _ _ _ rr
        have mr9_2 : (u9.setCell ⟨w.heap.size, 5, none⟩ (.int .i64 (pd + 1))).cell? ⟨w.heap.size + 1, 2, none⟩ = some (.bool false) := cell_of_row _ _ 2 _ _ _ rr
        have mr9_3 : (u9.setCell ⟨w.heap.size, 5, none⟩ (.int .i64 (pd + 1))).cell? ⟨w.heap.size + 1, 3, none⟩ = some (.int .i64 0) := cell_of_row _ _ 3 _ _ _ rr
        have mr9_4 : (u9.setCell ⟨w.heap.size, 5, none⟩ (.int .i64 (pd + 1))).cell? ⟨w.heap.size + 1, 4, none⟩ = some (.bool false) := cell_of_row _ _ 4 _ _ _ rr
        have mr9_5 : (u9.setCell ⟨w.heap.size, 5, none⟩ (.int .i64 (pd + 1))).cell? ⟨w.heap.size + 1, 5, none⟩ = some (.int .i64 0) := cell_of_row _ _ 5 _ _ _ rr
        go_upto_region 10 with fail
        clear z10 ma9_0 ma9_1 ma9_2 ma9_3 ma9_4 ma9_5 mr8_0 mr8_1 mr8_2 mr8_3 mr8_4 mr8_5
        generalize (u9.setCell ⟨w.heap.size, 5, none⟩ (.int .i64 (pd + 1))) = u10 at *
        have z11_0 := frzRow rr 0
        have z11_1 := frzRow rr 1
        have z11_2 := frzRow rr 2
        have z11_3 := frzRow rr 3
        have z11_4 := frzRow rr 4
        have z11_5 := frzRow rr 5
        replace ra := rowSet (rowSet (rowSet (rowSet (rowSet (rowSet (ra) ⟨w.heap.size + 1, 0, none⟩ (.slice (some ⟨g2, 0, none⟩) d.length c2) (by show _ ≠ w.heap.size + 1; omega)) ⟨w.heap.size + 1, 1, none⟩ (.int .i64 m) (by show _ ≠ w.heap.size + 1; omega)) ⟨w.heap.size + 1, 2, none⟩ (.bool (!pp)) (by show _ ≠ w.heap.size + 1; omega)) ⟨w.heap.size + 1, 3, none⟩ (.int .i64 tk) (by show _ ≠ w.heap.size + 1; omega)) ⟨w.heap.size + 1, 4, none⟩ (.bool tp) (by show _ ≠ w.heap.size + 1; omega)) ⟨w.heap.size + 1, 5, none⟩ (.int .i64 (pd + 1)) (by show _ ≠ w.heap.size + 1; omega)
        replace rr := put5 (put4 (put3 (put2 (put1 (put0 (rr) (.slice (some ⟨g2, 0, none⟩) d.length c2)) (.int .i64 m)) (.bool (!pp))) (.int .i64 tk)) (.bool tp)) (.int .i64 (pd + 1))
        replace o2 := ((((((o2).setOther ⟨w.heap.size + 1, 0, none⟩ (.slice (some ⟨g2, 0, none⟩) d.length c2) (by show w.heap.size + 1 < _ ∨ _ ≤ w.heap.size + 1; omega)).setOther ⟨w.heap.size + 1, 1, none⟩ (.int .i64 m) (by show w.heap.size + 1 < _ ∨ _ ≤ w.heap.size + 1; omega)).setOther ⟨w.heap.size + 1, 2, none⟩ (.bool (!pp)) (by show w.heap.size + 1 < _ ∨ _ ≤ w.heap.size + 1; omega)).setOther ⟨w.heap.size + 1, 3, none⟩ (.int .i64 tk) (by show w.heap.size + 1 < _ ∨ _ ≤ w.heap.size + 1; omega)).setOther ⟨w.heap.size + 1, 4, none⟩ (.bool tp) (by show w.heap.size + 1 < _ ∨ _ ≤ w.heap.size + 1; omega)).setOther ⟨w.heap.size + 1, 5, none⟩ (.int .i64 (pd + 1)) (by show w.heap.size + 1 < _ ∨ _ ≤ w.heap.size + 1; omega)
        replace h := ((((((h).setOther ⟨w.heap.size + 1, 0, none⟩ (.slice (some ⟨g2, 0, none⟩) d.length c2) (by show _ ≤ w.heap.size + 1; omega)).setOther ⟨w.heap.size + 1, 1, none⟩ (.int .i64 m) (by show _ ≤ w.heap.size + 1; omega)).setOther ⟨w.heap.size + 1, 2, none⟩ (.bool (!pp)) (by show _ ≤ w.heap.size + 1; omega)).setOther ⟨w.heap.size + 1, 3, none⟩ (.int .i64 tk) (by show _ ≤ w.heap.size + 1; omega)).setOther ⟨w.heap.size + 1, 4, none⟩ (.bool tp) (by show _ ≤ w.heap.size + 1; omega)).setOther ⟨w.heap.size + 1, 5, none⟩ (.int .i64 (pd + 1)) (by show _ ≤ w.heap.size + 1; omega)
        replace hB := ((((((hB).setCell (p := ⟨w.heap.size + 1, 0, none⟩) (by show _ ≤ w.heap.size + 1; omega) (.slice (some ⟨g2, 0, none⟩) d.length c2)).setCell (p := ⟨w.heap.size + 1, 1, none⟩) (by show _ ≤ w.heap.size + 1; omega) (.int .i64 m)).setCell (p := ⟨w.heap.size + 1, 2, none⟩) (by show _ ≤ w.heap.size + 1; omega) (.bool (!pp))).setCell (p := ⟨w.heap.size + 1, 3, none⟩) (by show _ ≤ w.heap.size + 1; omega) (.int .i64 tk)).setCell (p := ⟨w.heap.size + 1, 4, none⟩) (by show _ ≤ w.heap.size + 1; omega) (.bool tp)).setCell (p := ⟨w.heap.size + 1, 5, none⟩) (by show _ ≤ w.heap.size + 1; omega) (.int .i64 (pd + 1))
        have s11 : u10.heap.size ≤ ((((((u10.setCell ⟨w.heap.size + 1, 0, none⟩ (.slice (some ⟨g2, 0, none⟩) d.length c2)).setCell ⟨w.heap.size + 1, 1, none⟩ (.int .i64 m)).setCell ⟨w.heap.size + 1, 2, none⟩ (.bool (!pp))).setCell ⟨w.heap.size + 1, 3, none⟩ (.int .i64 tk)).setCell ⟨w.heap.size + 1, 4, none⟩ (.bool tp)).setCell ⟨w.heap.size + 1, 5, none⟩ (.int .i64 (pd + 1))).heap.size := by simp only [World.size_setCell]; exact Nat.le_refl _
        have ma11_0 : ((((((u10.setCell ⟨w.heap.size + 1, 0, none⟩ (.slice (some ⟨g2, 0, none⟩) d.length c2)).setCell ⟨w.heap.size + 1, 1, none⟩ (.int .i64 m)).setCell ⟨w.heap.size + 1, 2, none⟩ (.bool (!pp))).setCell ⟨w.heap.size + 1, 3, none⟩ (.int .i64 tk)).setCell ⟨w.heap.size + 1, 4, none⟩ (.bool tp)).setCell ⟨w.heap.size + 1, 5, none⟩ (.int .i64 (pd + 1))).cell? ⟨w.heap.size, 0, none⟩ = some (.slice (some ⟨g2, 0, none⟩) d.length c2) := cell_of_row _ _ 0 _ _ _ ra
        have ma11_1 : ((((((u10.setCell ⟨w.heap.size + 1, 0, none⟩ (.slice (some ⟨g2, 0, none⟩) d.length c2)).setCell ⟨w.heap.size + 1, 1, none⟩ (.int .i64 m)).setCell ⟨w.heap.size + 1, 2, none⟩ (.bool (!pp))).setCell ⟨w.heap.size + 1, 3, none⟩ (.int .i64 tk)).setCell ⟨w.heap.size + 1, 4, none⟩ (.bool tp)).setCell ⟨w.heap.size + 1, 5, none⟩ (.int .i64 (pd + 1))).cell? ⟨w.heap.size, 1, none⟩ = some (.int .i64 m) := cell_of_row _ _ 1 _ _ _ ra
        have ma11_2 : ((((((u10.setCell ⟨w.heap.size + 1, 0, none⟩ (.slice (some ⟨g2, 0, none⟩) d.length c2)).setCell ⟨w.heap.size + 1, 1, none⟩ (.int .i64 m)).setCell ⟨w.heap.size + 1, 2, none⟩ (.bool (!pp))).setCell ⟨w.heap.size + 1, 3, none⟩ (.int .i64 tk)).setCell ⟨w.heap.size + 1, 4, none⟩ (.bool tp)).setCell ⟨w.heap.size + 1, 5, none⟩ (.int .i64 (pd + 1))).cell? ⟨w.heap.size, 2, none⟩ = some (.bool (!pp)) := cell_of_row _ _ 2 _ _ _ ra
        have ma11_3 : ((((((u10.setCell ⟨w.heap.size + 1, 0, none⟩ (.slice (some ⟨g2, 0, none⟩) d.length c2)).setCell ⟨w.heap.size + 1, 1, none⟩ (.int .i64 m)).setCell ⟨w.heap.size + 1, 2, none⟩ (.bool (!pp))).setCell ⟨w.heap.size + 1, 3, none⟩ (.int .i64 tk)).setCell ⟨w.heap.size + 1, 4, none⟩ (.bool tp)).setCell ⟨w.heap.size + 1, 5, none⟩ (.int .i64 (pd + 1))).cell? ⟨w.heap.size, 3, none⟩ = some (.int .i64 tk) := cell_of_row _ _ 3 _ _ _ ra
        have ma11_4 : ((((((u10.setCell ⟨w.heap.size + 1, 0, none⟩ (.slice (some ⟨g2, 0, none⟩) d.length c2)).setCell ⟨w.heap.size + 1, 1, none⟩ (.int .i64 m)).setCell ⟨w.heap.size + 1, 2, none⟩ (.bool (!pp))).setCell ⟨w.heap.size + 1, 3, none⟩ (.int .i64 tk)).setCell ⟨w.heap.size + 1, 4, none⟩ (.bool tp)).setCell ⟨w.heap.size + 1, 5, none⟩ (.int .i64 (pd + 1))).cell? ⟨w.heap.size, 4, none⟩ = some (.bool tp) := cell_of_row _ _ 4 _ _ _ ra
        have ma11_5 : ((((((u10.setCell ⟨w.heap.size + 1, 0, none⟩ (.slice (some ⟨g2, 0, none⟩) d.length c2)).setCell ⟨w.heap.size + 1, 1, none⟩ (.int .i64 m)).setCell ⟨w.heap.size + 1, 2, none⟩ (.bool (!pp))).setCell ⟨w.heap.size + 1, 3, none⟩ (.int .i64 tk)).setCell ⟨w.heap.size + 1, 4, none⟩ (.bool tp)).setCell ⟨w.heap.size + 1, 5, none⟩ (.int .i64 (pd + 1))).cell? ⟨w.heap.size, 5, none⟩ = some (.int .i64 (pd + 1)) := cell_of_row _ _ 5 _ _ _ ra
        have mr10_0 : ((((((u10.setCell ⟨w.heap.size + 1, 0, none⟩ (.slice (some ⟨g2, 0, none⟩) d.length c2)).setCell ⟨w.heap.size + 1, 1, none⟩ (.int .i64 m)).setCell ⟨w.heap.size + 1, 2, none⟩ (.bool (!pp))).setCell ⟨w.heap.size + 1, 3, none⟩ (.int .i64 tk)).setCell ⟨w.heap.size + 1, 4, none⟩ (.bool tp)).setCell ⟨w.heap.size + 1, 5, none⟩ (.int .i64 (pd + 1))).cell? ⟨w.heap.size + 1, 0, none⟩ = some (.slice (some ⟨g2, 0, none⟩) d.length c2) := cell_of_row _ _ 0 _ _ _ rr
        have mr10_1 : ((((((u10.setCell ⟨w.heap.size + 1, 0, none⟩ (.slice (some ⟨g2, 0, none⟩) d.length c2)).setCell ⟨w.heap.size + 1, 1, none⟩ (.int .i64 m)).setCell ⟨w.heap.size + 1, 2, none⟩ (.bool (!pp))).setCell ⟨w.heap.size + 1, 3, none⟩ (.int .i64 tk)).setCell ⟨w.heap.size + 1, 4, none⟩ (.bool tp)).setCell ⟨w.heap.size + 1, 5, none⟩ (.int .i64 (pd + 1))).cell? ⟨w.heap.size + 1, 1, none⟩ = some (.int .i64 m) := cell_of_row _ _ 1 _ _ _ rr
        have mr10_2 : ((((((u10.setCell ⟨w.heap.size + 1, 0, none⟩ (.slice (some ⟨g2, 0, none⟩) d.length c2)).setCell ⟨w.heap.size + 1, 1, none⟩ (.int .i64 m)).setCell ⟨w.heap.size + 1, 2, none⟩ (.bool (!pp))).setCell ⟨w.heap.size + 1, 3, none⟩ (.int .i64 tk)).setCell ⟨w.heap.size + 1, 4, none⟩ (.bool tp)).setCell ⟨w.heap.size + 1, 5, none⟩ (.int .i64 (pd + 1))).cell? ⟨w.heap.size + 1, 2, none⟩ = some (.bool (!pp)) := cell_of_row _ _ 2 _ _ _ rr
        have mr10_3 : ((((((u10.setCell ⟨w.heap.size + 1, 0, none⟩ (.slice (some ⟨g2, 0, none⟩) d.length c2)).setCell ⟨w.heap.size + 1, 1, none⟩ (.int .i64 m)).setCell ⟨w.heap.size + 1, 2, none⟩ (.bool (!pp))).setCell ⟨w.heap.size + 1, 3, none⟩ (.int .i64 tk)).setCell ⟨w.heap.size + 1, 4, none⟩ (.bool tp)).setCell ⟨w.heap.size + 1, 5, none⟩ (.int .i64 (pd + 1))).cell? ⟨w.heap.size + 1, 3, none⟩ = some (.int .i64 tk) := cell_of_row _ _ 3 _ _ _ rr
        have mr10_4 : ((((((u10.setCell ⟨w.heap.size + 1, 0, none⟩ (.slice (some ⟨g2, 0, none⟩) d.length c2)).setCell ⟨w.heap.size + 1, 1, none⟩ (.int .i64 m)).setCell ⟨w.heap.size + 1, 2, none⟩ (.bool (!pp))).setCell ⟨w.heap.size + 1, 3, none⟩ (.int .i64 tk)).setCell ⟨w.heap.size + 1, 4, none⟩ (.bool tp)).setCell ⟨w.heap.size + 1, 5, none⟩ (.int .i64 (pd + 1))).cell? ⟨w.heap.size + 1, 4, none⟩ = some (.bool tp) := cell_of_row _ _ 4 _ _ _ rr
        have mr10_5 : ((((((u10.setCell ⟨w.heap.size + 1, 0, none⟩ (.slice (some ⟨g2, 0, none⟩) d.length c2)).setCell ⟨w.heap.size + 1, 1, none⟩ (.int .i64 m)).setCell ⟨w.heap.size + 1, 2, none⟩ (.bool (!pp))).setCell ⟨w.heap.size + 1, 3, none⟩ (.int .i64 tk)).setCell ⟨w.heap.size + 1, 4, none⟩ (.bool tp)).setCell ⟨w.heap.size + 1, 5, none⟩ (.int .i64 (pd + 1))).cell? ⟨w.heap.size + 1, 5, none⟩ = some (.int .i64 (pd + 1)) := cell_of_row _ _ 5 _ _ _ rr
        go_wp2_with fail
        refine bodyPost_ret (v := .tuple #[.agg #[.slice (some ⟨g2, 0, none⟩) d.length c2, .int .i64 m, .bool (!pp), .int .i64 tk, .bool tp, .int .i64 (pd + 1)], .bool true]) (by simp only [results, Try.results24]; simp [go_sem, mr10_0, mr10_1, mr10_2, mr10_3, mr10_4, mr10_5]) rfl ?_
        rw [HE.out, HF.out, List.length_set]
        exact RetF.of (f := fun x => .tuple #[ansR m (!pp) tk tp (pd + 1) x, .bool true]) o2 (by omega) (by omega) hB
      · have hbz : (m == 0) = false := beq_eq_false_iff_ne.2 hz
        have HF := Lib.hid (show postV ⟨d, (p : Int), pp, tk, tp, pd⟩ v = fun x => .tuple #[ansR m pp tk tp (pd + 1) x, .bool true] by unfold postV; rw [HP.out.1, HP.out.2]; unfold aput ansW; simp only [Ans.n, hm]; rw [decide_eq_false hz]; cases pp <;> rfl)
        clear hm hz
        have hn1 := below_new w (.cells #[.slice A d.length c, .int .i64 (p : Int), .bool pp, .int .i64 tk, .bool tp, .int .i64 pd] 24)
        replace h := h.below hn1 (by omega)
        replace hB := below_later hB hn1 (by omega)
        clear hn1
        have s1 : w.heap.size < (w.alloc (.cells #[.slice A d.length c, .int .i64 (p : Int), .bool pp, .int .i64 tk, .bool tp, .int .i64 pd] 24)).heap.size := Nat.lt_of_lt_of_eq (Nat.lt_succ_self _) (World.size_alloc _ _).symm
        have ra : (w.alloc (.cells #[.slice A d.length c, .int .i64 (p : Int), .bool pp, .int .i64 tk, .bool tp, .int .i64 pd] 24)).heap[w.heap.size]? = some (.cells #[.slice A d.length c, .int .i64 (p : Int), .bool pp, .int .i64 tk, .bool tp, .int .i64 pd] 24 (0, 0)) := by have q := heap_alloc_new w (.cells #[.slice A d.length c, .int .i64 (p : Int), .bool pp, .int .i64 tk, .bool tp, .int .i64 pd] 24); (try simp only [World.size_alloc, World.size_setCell] at q); exact q
        have ma1_0 : (w.alloc (.cells #[.slice A d.length c, .int .i64 (p : Int), .bool pp, .int .i64 tk, .bool tp, .int .i64 pd] 24)).cell? ⟨w.heap.size, 0, none⟩ = some (.slice A d.length c) := cell_of_row _ _ 0 _ _ _ ra
        have ma1_1 : (w.alloc (.cells #[.slice A d.length c, .int .i64 (p : Int), .bool pp, .int .i64 tk, .bool tp, .int .i64 pd] 24)).cell? ⟨w.heap.size, 1, none⟩ = some (.int .i64 (p : Int)) := cell_of_row _ _ 1 _ _ _ ra
        have ma1_2 : (w.alloc (.cells #[.slice A d.length c, .int .i64 (p : Int), .bool pp, .int .i64 tk, .bool tp, .int .i64 pd] 24)).cell? ⟨w.heap.size, 2, none⟩ = some (.bool pp) := cell_of_row _ _ 2 _ _ _ ra
        have ma1_3 : (w.alloc (.cells #[.slice A d.length c, .int .i64 (p : Int), .bool pp, .int .i64 tk, .bool tp, .int .i64 pd] 24)).cell? ⟨w.heap.size, 3, none⟩ = some (.int .i64 tk) := cell_of_row _ _ 3 _ _ _ ra
        have ma1_4 : (w.alloc (.cells #[.slice A d.length c, .int .i64 (p : Int), .bool pp, .int .i64 tk, .bool tp, .int .i64 pd] 24)).cell? ⟨w.heap.size, 4, none⟩ = some (.bool tp) := cell_of_row _ _ 4 _ _ _ ra
        have ma1_5 : (w.alloc (.cells #[.slice A d.length c, .int .i64 (p : Int), .bool pp, .int .i64 tk, .bool tp, .int .i64 pd] 24)).cell? ⟨w.heap.size, 5, none⟩ = some (.int .i64 pd) := cell_of_row _ _ 5 _ _ _ ra
        have hn2 := below_new (w.alloc (.cells #[.slice A d.length c, .int .i64 (p : Int), .bool pp, .int .i64 tk, .bool tp, .int .i64 pd] 24)) (.cells #[.slice none 0 0, .int .i64 0, .bool false, .int .i64 0, .bool false, .int .i64 0] 24)
        replace ra := rowKeep ra hn2
        replace h := h.below hn2 (by omega)
        replace hB := below_later hB hn2 (by omega)
        have ma2_0 : ((w.alloc (.cells #[.slice A d.length c, .int .i64 (p : Int), .bool pp, .int .i64 tk, .bool tp, .int .i64 pd] 24)).alloc (.cells #[.slice none 0 0, .int .i64 0, .bool false, .int .i64 0, .bool false, .int .i64 0] 24)).cell? ⟨w.heap.size, 0, none⟩ = some (.slice A d.length c) := cell_of_row _ _ 0 _ _ _ ra
        have ma2_1 : ((w.alloc (.cells #[.slice A d.length c, .int .i64 (p : Int), .bool pp, .int .i64 tk, .bool tp, .int .i64 pd] 24)).alloc (.cells #[.slice none 0 0, .int .i64 0, .bool false, .int .i64 0, .bool false, .int .i64 0] 24)).cell? ⟨w.heap.size, 1, none⟩ = some (.int .i64 (p : Int)) := cell_of_row _ _ 1 _ _ _ ra
        have ma2_2 : ((w.alloc (.cells #[.slice A d.length c, .int .i64 (p : Int), .bool pp, .int .i64 tk, .bool tp, .int .i64 pd] 24)).alloc (.cells #[.slice none 0 0, .int .i64 0, .bool false, .int .i64 0, .bool false, .int .i64 0] 24)).cell? ⟨w.heap.size, 2, none⟩ = some (.bool pp) := cell_of_row _ _ 2 _ _ _ ra
        have ma2_3 : ((w.alloc (.cells #[.slice A d.length c, .int .i64 (p : Int), .bool pp, .int .i64 tk, .bool tp, .int .i64 pd] 24)).alloc (.cells #[.slice none 0 0, .int .i64 0, .bool false, .int .i64 0, .bool false, .int .i64 0] 24)).cell? ⟨w.heap.size, 3, none⟩ = some (.int .i64 tk) := cell_of_row _ _ 3 _ _ _ ra
        have ma2_4 : ((w.alloc (.cells #[.slice A d.length c, .int .i64 (p : Int), .bool pp, .int .i64 tk, .bool tp, .int .i64 pd] 24)).alloc (.cells #[.slice none 0 0, .int .i64 0, .bool false, .int .i64 0, .bool false, .int .i64 0] 24)).cell? ⟨w.heap.size, 4, none⟩ = some (.bool tp) := cell_of_row _ _ 4 _ _ _ ra
        have ma2_5 : ((w.alloc (.cells #[.slice A d.length c, .int .i64 (p : Int), .bool pp, .int .i64 tk, .bool tp, .int .i64 pd] 24)).alloc (.cells #[.slice none 0 0, .int .i64 0, .bool false, .int .i64 0, .bool false, .int .i64 0] 24)).cell? ⟨w.heap.size, 5, none⟩ = some (.int .i64 pd) := cell_of_row _ _ 5 _ _ _ ra
        clear hn2
        have s2 : (w.alloc (.cells #[.slice A d.length c, .int .i64 (p : Int), .bool pp, .int .i64 tk, .bool tp, .int .i64 pd] 24)).heap.size < ((w.alloc (.cells #[.slice A d.length c, .int .i64 (p : Int), .bool pp, .int .i64 tk, .bool tp, .int .i64 pd] 24)).alloc (.cells #[.slice none 0 0, .int .i64 0, .bool false, .int .i64 0, .bool false, .int .i64 0] 24)).heap.size := Nat.lt_of_lt_of_eq (Nat.lt_succ_self _) (World.size_alloc _ _).symm
        have rr : ((w.alloc (.cells #[.slice A d.length c, .int .i64 (p : Int), .bool pp, .int .i64 tk, .bool tp, .int .i64 pd] 24)).alloc (.cells #[.slice none 0 0, .int .i64 0, .bool false, .int .i64 0, .bool false, .int .i64 0] 24)).heap[w.heap.size + 1]? = some (.cells #[.slice none 0 0, .int .i64 0, .bool false, .int .i64 0, .bool false, .int .i64 0] 24 (0, 0)) := by have q := heap_alloc_new (w.alloc (.cells #[.slice A d.length c, .int .i64 (p : Int), .bool pp, .int .i64 tk, .bool tp, .int .i64 pd] 24)) (.cells #[.slice none 0 0, .int .i64 0, .bool false, .int .i64 0, .bool false, .int .i64 0] 24); (try simp only [World.size_alloc, World.size_setCell] at q); exact q
        have mr1_0 : ((w.alloc (.cells #[.slice A d.length c, .int .i64 (p : Int), .bool pp, .int .i64 tk, .bool tp, .int .i64 pd] 24)).alloc (.cells #[.slice none 0 0, .int .i64 0, .bool false, .int .i64 0, .bool false, .int .i64 0] 24)).cell? ⟨w.heap.size + 1, 0, none⟩ = some (.slice none 0 0) := cell_of_row _ _ 0 _ _ _ rr
        have mr1_1 : ((w.alloc (.cells #[.slice A d.length c, .int .i64 (p : Int), .bool pp, .int .i64 tk, .bool tp, .int .i64 pd] 24)).alloc (.cells #[.slice none 0 0, .int .i64 0, .bool false, .int .i64 0, .bool false, .int .i64 0] 24)).cell? ⟨w.heap.size + 1, 1, none⟩ = some (.int .i64 0) := cell_of_row _ _ 1 _ _ _ rr
        have mr1_2 : ((w.alloc (.cells #[.slice A d.length c, .int .i64 (p : Int), .bool pp, .int .i64 tk, .bool tp, .int .i64 pd] 24)).alloc (.cells #[.slice none 0 0, .int .i64 0, .bool false, .int .i64 0, .bool false, .int .i64 0] 24)).cell? ⟨w.heap.size + 1, 2, none⟩ = some (.bool false) := cell_of_row _ _ 2 _ _ _ rr
        have mr1_3 : ((w.alloc (.cells #[.slice A d.length c, .int .i64 (p : Int), .bool pp, .int .i64 tk, .bool tp, .int .i64 pd] 24)).alloc (.cells #[.slice none 0 0, .int .i64 0, .bool false, .int .i64 0, .bool false, .int .i64 0] 24)).cell? ⟨w.heap.size + 1, 3, none⟩ = some (.int .i64 0) := cell_of_row _ _ 3 _ _ _ rr
        have mr1_4 : ((w.alloc (.cells #[.slice A d.length c, .int .i64 (p : Int), .bool pp, .int .i64 tk, .bool tp, .int .i64 pd] 24)).alloc (.cells #[.slice none 0 0, .int .i64 0, .bool false, .int .i64 0, .bool false, .int .i64 0] 24)).cell? ⟨w.heap.size + 1, 4, none⟩ = some (.bool false) := cell_of_row _ _ 4 _ _ _ rr
        have mr1_5 : ((w.alloc (.cells #[.slice A d.length c, .int .i64 (p : Int), .bool pp, .int .i64 tk, .bool tp, .int .i64 pd] 24)).alloc (.cells #[.slice none 0 0, .int .i64 0, .bool false, .int .i64 0, .bool false, .int .i64 0] 24)).cell? ⟨w.heap.size + 1, 5, none⟩ = some (.int .i64 0) := cell_of_row _ _ 5 _ _ _ rr
        go_enter Try.func24, Try.ntmps24
        go_wp2_with fail
        clear ma1_0 ma1_1 ma1_2 ma1_3 ma1_4 ma1_5
        generalize (w.alloc (.cells #[.slice A d.length c, .int .i64 (p : Int), .bool pp, .int .i64 tk, .bool tp, .int .i64 pd] 24)) = u1 at *
        generalize (u1.alloc (.cells #[.slice none 0 0, .int .i64 0, .bool false, .int .i64 0, .bool false, .int .i64 0] 24)) = u2 at *
        have q := implAnswersValid_any A d.length c _ d (p : Int) pp tk tp pd u2 h (by omega)
        rw [HV.out] at q
        refine q.mono ?_
        clear q
        rintro e w3 ⟨rfl, b3⟩
        have s3 := b3.size
        clear ma2_0 ma2_1 ma2_2 ma2_3 ma2_4 ma2_5
        clear mr1_0 mr1_1 mr1_2 mr1_3 mr1_4 mr1_5
        replace ra := rowKeep ra b3
        replace rr := rowKeep rr b3
        replace h := h.below b3 (by omega)
        replace hB := below_later hB b3 (by omega)
        have ma3_0 : w3.cell? ⟨w.heap.size, 0, none⟩ = some (.slice A d.length c) := cell_of_row _ _ 0 _ _ _ ra
        have ma3_1 : w3.cell? ⟨w.heap.size, 1, none⟩ = some (.int .i64 (p : Int)) := cell_of_row _ _ 1 _ _ _ ra
        have ma3_2 : w3.cell? ⟨w.heap.size, 2, none⟩ = some (.bool pp) := cell_of_row _ _ 2 _ _ _ ra
        have ma3_3 : w3.cell? ⟨w.heap.size, 3, none⟩ = some (.int .i64 tk) := cell_of_row _ _ 3 _ _ _ ra
        have ma3_4 : w3.cell? ⟨w.heap.size, 4, none⟩ = some (.bool tp) := cell_of_row _ _ 4 _ _ _ ra
        have ma3_5 : w3.cell? ⟨w.heap.size, 5, none⟩ = some (.int .i64 pd) := cell_of_row _ _ 5 _ _ _ ra
        have mr2_0 : w3.cell? ⟨w.heap.size + 1, 0, none⟩ = some (.slice none 0 0) := cell_of_row _ _ 0 _ _ _ rr
        have mr2_1 : w3.cell? ⟨w.heap.size + 1, 1, none⟩ = some (.int .i64 0) := cell_of_row _ _ 1 _ _ _ rr
        have mr2_2 : w3.cell? ⟨w.heap.size + 1, 2, none⟩ = some (.bool false) := cell_of_row _ _ 2 _ _ _ rr
        have mr2_3 : w3.cell? ⟨w.heap.size + 1, 3, none⟩ = some (.int .i64 0) := cell_of_row _ _ 3 _ _ _ rr
        have mr2_4 : w3.cell? ⟨w.heap.size + 1, 4, none⟩ = some (.bool false) := cell_of_row _ _ 4 _ _ _ rr
        have mr2_5 : w3.cell? ⟨w.heap.size + 1, 5, none⟩ = some (.int .i64 0) := cell_of_row _ _ 5 _ _ _ rr
        clear b3
        go_wp2_with fail
        have q := cloneA_any A d.length c _ (ansC d) w3 h (ansC_one d) (by omega) (by omega)
        refine q.mono ?_
        clear q
        rintro e w4 ⟨A2, c2, rfl, o2, b4⟩
        have s4 := b4.size
        clear ma3_0 ma3_1 ma3_2 ma3_3 ma3_4 ma3_5
        clear mr2_0 mr2_1 mr2_2 mr2_3 mr2_4 mr2_5
        replace ra := rowKeep ra b4
        replace rr := rowKeep rr b4
        replace h := h.below b4 (by omega)
        replace hB := below_later hB b4 (by omega)
        have ma4_0 : w4.cell? ⟨w.heap.size, 0, none⟩ = some (.slice A d.length c) := cell_of_row _ _ 0 _ _ _ ra
        have ma4_1 : w4.cell? ⟨w.heap.size, 1, none⟩ = some (.int .i64 (p : Int)) := cell_of_row _ _ 1 _ _ _ ra
        have ma4_2 : w4.cell? ⟨w.heap.size, 2, none⟩ = some (.bool pp) := cell_of_row _ _ 2 _ _ _ ra
        have ma4_3 : w4.cell? ⟨w.heap.size, 3, none⟩ = some (.int .i64 tk) := cell_of_row _ _ 3 _ _ _ ra
        have ma4_4 : w4.cell? ⟨w.heap.size, 4, none⟩ = some (.bool tp) := cell_of_row _ _ 4 _ _ _ ra
        have ma4_5 : w4.cell? ⟨w.heap.size, 5, none⟩ = some (.int .i64 pd) := cell_of_row _ _ 5 _ _ _ ra
        have mr3_0 : w4.cell? ⟨w.heap.size + 1, 0, none⟩ = some (.slice none 0 0) := cell_of_row _ _ 0 _ _ _ rr
        have mr3_1 : w4.cell? ⟨w.heap.size + 1, 1, none⟩ = some (.int .i64 0) := cell_of_row _ _ 1 _ _ _ rr
        have mr3_2 : w4.cell? ⟨w.heap.size + 1, 2, none⟩ = some (.bool false) := cell_of_row _ _ 2 _ _ _ rr
        have mr3_3 : w4.cell? ⟨w.heap.size + 1, 3, none⟩ = some (.int .i64 0) := cell_of_row _ _ 3 _ _ _ rr
        have mr3_4 : w4.cell? ⟨w.heap.size + 1, 4, none⟩ = some (.bool false) := cell_of_row _ _ 4 _ _ _ rr
        have mr3_5 : w4.cell? ⟨w.heap.size + 1, 5, none⟩ = some (.int .i64 0) := cell_of_row _ _ 5 _ _ _ rr
        clear b4
        have z5 := frzRow ra 0
        replace rr := rowSet rr ⟨w.heap.size, 0, none⟩ (.slice A2 d.length c2) (by show _ ≠ w.heap.size; omega)
        replace ra : (w4.setCell ⟨w.heap.size, 0, none⟩ (.slice A2 d.length c2)).heap[w.heap.size]? = some (.cells #[.slice A2 d.length c2, .int .i64 (p : Int), .bool pp, .int .i64 tk, .bool tp, .int .i64 pd] 24 (0, 0)) := by rw [heap_setCell_same _ _ 0 _ _ _ ra]; rfl
        replace o2 := o2.setOther ⟨w.heap.size, 0, none⟩ (.slice A2 d.length c2) (by show w.heap.size < _ ∨ _ ≤ w.heap.size; omega)
        replace h := h.setOther ⟨w.heap.size, 0, none⟩ (.slice A2 d.length c2) (by show _ ≤ w.heap.size; omega)
        replace hB := hB.setCell (p := ⟨w.heap.size, 0, none⟩) (by show _ ≤ w.heap.size; omega) (.slice A2 d.length c2)
        have s5 : w4.heap.size ≤ (w4.setCell ⟨w.heap.size, 0, none⟩ (.slice A2 d.length c2)).heap.size := Nat.le_of_eq (World.size_setCell _ _ _).symm
        have ma5_0 : (w4.setCell ⟨w.heap.size, 0, none⟩ (.slice A2 d.length c2)).cell? ⟨w.heap.size, 0, none⟩ = some (.slice A2 d.length c2) := cell_of_row _ _ 0 _ _ _ ra
        have ma5_1 : (w4.setCell ⟨w.heap.size, 0, none⟩ (.slice A2 d.length c2)).cell? ⟨w.heap.size, 1, none⟩ = some (.int .i64 (p : Int)) := cell_of_row _ _ 1 _ _ _ ra
        have ma5_2 : (w4.setCell ⟨w.heap.size, 0, none⟩ (.slice A2 d.length c2)).cell? ⟨w.heap.size, 2, none⟩ = some (.bool pp) := cell_of_row _ _ 2 _ _ _ ra
        have ma5_3 : (w4.setCell ⟨w.heap.size, 0, none⟩ (.slice A2 d.length c2)).cell? ⟨w.heap.size, 3, none⟩ = some (.int .i64 tk) := cell_of_row _ _ 3 _ _ _ ra
        have ma5_4 : (w4.setCell ⟨w.heap.size, 0, none⟩ (.slice A2 d.length c2)).cell? ⟨w.heap.size, 4, none⟩ = some (.bool tp) := cell_of_row _ _ 4 _ _ _ ra
        have ma5_5 : (w4.setCell ⟨w.heap.size, 0, none⟩ (.slice A2 d.length c2)).cell? ⟨w.heap.size, 5, none⟩ = some (.int .i64 pd) := cell_of_row _ _ 5 _ _ _ ra
        have mr4_0 : (w4.setCell ⟨w.heap.size, 0, none⟩ (.slice A2 d.length c2)).cell? ⟨w.heap.size + 1, 0, none⟩ = some (.slice none 0 0) := cell_of_row _ _ 0 _ _ _ rr
        have mr4_1 : (w4.setCell ⟨w.heap.size, 0, none⟩ (.slice A2 d.length c2)).cell? ⟨w.heap.size + 1, 1, none⟩ = some (.int .i64 0) := cell_of_row _ _ 1 _ _ _ rr
        have mr4_2 : (w4.setCell ⟨w.heap.size, 0, none⟩ (.slice A2 d.length c2)).cell? ⟨w.heap.size + 1, 2, none⟩ = some (.bool false) := cell_of_row _ _ 2 _ _ _ rr
        have mr4_3 : (w4.setCell ⟨w.heap.size, 0, none⟩ (.slice A2 d.length c2)).cell? ⟨w.heap.size + 1, 3, none⟩ = some (.int .i64 0) := cell_of_row _ _ 3 _ _ _ rr
        have mr4_4 : (w4.setCell ⟨w.heap.size, 0, none⟩ (.slice A2 d.length c2)).cell? ⟨w.heap.size + 1, 4, none⟩ = some (.bool false) := cell_of_row _ _ 4 _ _ _ rr
        have mr4_5 : (w4.setCell ⟨w.heap.size, 0, none⟩ (.slice A2 d.length c2)).cell? ⟨w.heap.size + 1, 5, none⟩ = some (.int .i64 0) := cell_of_row _ _ 5 _ _ _ rr
        go_upto_region 4 with fail
        clear z5 ma4_0 ma4_1 ma4_2 ma4_3 ma4_4 ma4_5 mr3_0 mr3_1 mr3_2 mr3_3 mr3_4 mr3_5
        generalize (w4.setCell ⟨w.heap.size, 0, none⟩ (.slice A2 d.length c2)) = u5 at *
        have hA2 := o2.head (by omega)
        obtain ⟨g2, hA, hg1, hg2, hg3⟩ := hA2
        subst hA
        have hxl : (ansC d).length = d.length * 2 := ansC_length d
        have y0 := o2.cell rfl (p * 2) _ (List.getElem?_eq_getElem (by omega))
        have y1 := o2.cell rfl (p * 2 + 1) _ (List.getElem?_eq_getElem (by omega))
        have z0 := o2.frozen rfl (p * 2)
        have z1 := o2.frozen rfl (p * 2 + 1)
        replace ra := rowSet ra ⟨g2, p * 2, none⟩ (.int .i64 v) (by show _ ≠ g2; omega)
        replace rr := rowSet rr ⟨g2, p * 2, none⟩ (.int .i64 v) (by show _ ≠ g2; omega)
        replace o2 := o2.set rfl (p * 2) (.int .i64 v)
        replace h := h.setOther ⟨g2, p * 2, none⟩ (.int .i64 v) (by show _ ≤ g2; omega)
        replace hB := hB.setCell (p := ⟨g2, p * 2, none⟩) (by show _ ≤ g2; omega) (.int .i64 v)
        have s6 : u5.heap.size ≤ (u5.setCell ⟨g2, p * 2, none⟩ (.int .i64 v)).heap.size := Nat.le_of_eq (World.size_setCell _ _ _).symm
        have ma6_0 : (u5.setCell ⟨g2, p * 2, none⟩ (.int .i64 v)).cell? ⟨w.heap.size, 0, none⟩ = some (.slice (some ⟨g2, 0, none⟩) d.length c2) := cell_of_row _ _ 0 _ _ _ ra
        have ma6_1 : (u5.setCell ⟨g2, p * 2, none⟩ (.int .i64 v)).cell? ⟨w.heap.size, 1, none⟩ = some (.int .i64 (p : Int)) := cell_of_row _ _ 1 _ _ _ ra
        have ma6_2 : (u5.setCell ⟨g2, p * 2, none⟩ (.int .i64 v)).cell? ⟨w.heap.size, 2, none⟩ = some (.bool pp) := cell_of_row _ _ 2 _ _ _ ra
        have ma6_3 : (u5.setCell ⟨g2, p * 2, none⟩ (.int .i64 v)).cell? ⟨w.heap.size, 3, none⟩ = some (.int .i64 tk) := cell_of_row _ _ 3 _ _ _ ra
        have ma6_4 : (u5.setCell ⟨g2, p * 2, none⟩ (.int .i64 v)).cell? ⟨w.heap.size, 4, none⟩ = some (.bool tp) := cell_of_row _ _ 4 _ _ _ ra
        have ma6_5 : (u5.setCell ⟨g2, p * 2, none⟩ (.int .i64 v)).cell? ⟨w.heap.size, 5, none⟩ = some (.int .i64 pd) := cell_of_row _ _ 5 _ _ _ ra
        have mr5_0 : (u5.setCell ⟨g2, p * 2, none⟩ (.int .i64 v)).cell? ⟨w.heap.size + 1, 0, none⟩ = some (.slice none 0 0) := cell_of_row _ _ 0 _ _ _ rr
        have mr5_1 : (u5.setCell ⟨g2, p * 2, none⟩ (.int .i64 v)).cell? ⟨w.heap.size + 1, 1, none⟩ = some (.int .i64 0) := cell_of_row _ _ 1 _ _ _ rr
        have mr5_2 : (u5.setCell ⟨g2, p * 2, none⟩ (.int .i64 v)).cell? ⟨w.heap.size + 1, 2, none⟩ = some (.bool false) := cell_of_row _ _ 2 _ _ _ rr
        have mr5_3 : (u5.setCell ⟨g2, p * 2, none⟩ (.int .i64 v)).cell? ⟨w.heap.size + 1, 3, none⟩ = some (.int .i64 0) := cell_of_row _ _ 3 _ _ _ rr
        have mr5_4 : (u5.setCell ⟨g2, p * 2, none⟩ (.int .i64 v)).cell? ⟨w.heap.size + 1, 4, none⟩ = some (.bool false) := cell_of_row _ _ 4 _ _ _ rr
        have mr5_5 : (u5.setCell ⟨g2, p * 2, none⟩ (.int .i64 v)).cell? ⟨w.heap.size + 1, 5, none⟩ = some (.int .i64 0) := cell_of_row _ _ 5 _ _ _ rr
        replace ra := rowSet ra ⟨g2, p * 2 + 1, none⟩ (.bool pp) (by show _ ≠ g2; omega)
        replace rr := rowSet rr ⟨g2, p * 2 + 1, none⟩ (.bool pp) (by show _ ≠ g2; omega)
        replace o2 := o2.set rfl (p * 2 + 1) (.bool pp)
        replace h := h.setOther ⟨g2, p * 2 + 1, none⟩ (.bool pp) (by show _ ≤ g2; omega)
        replace hB := hB.setCell (p := ⟨g2, p * 2 + 1, none⟩) (by show _ ≤ g2; omega) (.bool pp)
        have s7 : (u5.setCell ⟨g2, p * 2, none⟩ (.int .i64 v)).heap.size ≤ ((u5.setCell ⟨g2, p * 2, none⟩ (.int .i64 v)).setCell ⟨g2, p * 2 + 1, none⟩ (.bool pp)).heap.size := Nat.le_of_eq (World.size_setCell _ _ _).symm
        have ma7_0 : ((u5.setCell ⟨g2, p * 2, none⟩ (.int .i64 v)).setCell ⟨g2, p * 2 + 1, none⟩ (.bool pp)).cell? ⟨w.heap.size, 0, none⟩ = some (.slice (some ⟨g2, 0, none⟩) d.length c2) := cell_of_row _ _ 0 _ _ _ ra
        have ma7_1 : ((u5.setCell ⟨g2, p * 2, none⟩ (.int .i64 v)).setCell ⟨g2, p * 2 + 1, none⟩ (.bool pp)).cell? ⟨w.heap.size, 1, none⟩ = some (.int .i64 (p : Int)) := cell_of_row _ _ 1 _ _ _ ra
        have ma7_2 : ((u5.setCell ⟨g2, p * 2, none⟩ (.int .i64 v)).setCell ⟨g2, p * 2 + 1, none⟩ (.bool pp)).cell? ⟨w.heap.size, 2, none⟩ = some (.bool pp) := cell_of_row _ _ 2 _ _ _ ra
        have ma7_3 : ((u5.setCell ⟨g2, p * 2, none⟩ (.int .i64 v)).setCell ⟨g2, p * 2 + 1, none⟩ (.bool pp)).cell? ⟨w.heap.size, 3, none⟩ = some (.int .i64 tk) := cell_of_row _ _ 3 _ _ _ ra
        have ma7_4 : ((u5.setCell ⟨g2, p * 2, none⟩ (.int .i64 v)).setCell ⟨g2, p * 2 + 1, none⟩ (.bool pp)).cell? ⟨w.heap.size, 4, none⟩ = some (.bool tp) := cell_of_row _ _ 4 _ _ _ ra
        have ma7_5 : ((u5.setCell ⟨g2, p * 2, none⟩ (.int .i64 v)).setCell ⟨g2, p * 2 + 1, none⟩ (.bool pp)).cell? ⟨w.heap.size, 5, none⟩ = some (.int .i64 pd) := cell_of_row _ _ 5 _ _ _ ra
        have mr6_0 : ((u5.setCell ⟨g2, p * 2, none⟩ (.int .i64 v)).setCell ⟨g2, p * 2 + 1, none⟩ (.bool pp)).cell? ⟨w.heap.size + 1, 0, none⟩ = some (.slice none 0 0) := cell_of_row _ _ 0 _ _ _ rr
        have mr6_1 : ((u5.setCell ⟨g2, p * 2, none⟩ (.int .i64 v)).setCell ⟨g2, p * 2 + 1, none⟩ (.bool pp)).cell? ⟨w.heap.size + 1, 1, none⟩ = some (.int .i64 0) := cell_of_row _ _ 1 _ _ _ rr
        have mr6_2 : ((u5.setCell ⟨g2, p * 2, none⟩ (.int .i64 v)).setCell ⟨g2, p * 2 + 1, none⟩ (.bool pp)).cell? ⟨w.heap.size + 1, 2, none⟩ = some (.bool false) := cell_of_row _ _ 2 _ _ _ rr
        have mr6_3 : ((u5.setCell ⟨g2, p * 2, none⟩ (.int .i64 v)).setCell ⟨g2, p * 2 + 1, none⟩ (.bool pp)).cell? ⟨w.heap.size + 1, 3, none⟩ = some (.int .i64 0) := cell_of_row _ _ 3 _ _ _ rr
        have mr6_4 : ((u5.setCell ⟨g2, p * 2, none⟩ (.int .i64 v)).setCell ⟨g2, p * 2 + 1, none⟩ (.bool pp)).cell? ⟨w.heap.size + 1, 4, none⟩ = some (.bool false) := cell_of_row _ _ 4 _ _ _ rr
        have mr6_5 : ((u5.setCell ⟨g2, p * 2, none⟩ (.int .i64 v)).setCell ⟨g2, p * 2 + 1, none⟩ (.bool pp)).cell? ⟨w.heap.size + 1, 5, none⟩ = some (.int .i64 0) := cell_of_row _ _ 5 _ _ _ rr
        have hset : ((ansC d).set (p * 2) (.int .i64 v)).set (p * 2 + 1) (.bool pp) = ansC (d.set p (v, pp)) := ansC_put d p hp v pp
        rw [hset] at o2
        clear hset
        go_upto_region 7 with fail
        clear y0 y1 z0 z1 ma5_0 ma5_1 ma5_2 ma5_3 ma5_4 ma5_5 mr4_0 mr4_1 mr4_2 mr4_3 mr4_4 mr4_5 ma6_0 ma6_1 ma6_2 ma6_3 ma6_4 ma6_5 mr5_0 mr5_1 mr5_2 mr5_3 mr5_4 mr5_5
        generalize (u5.setCell ⟨g2, p * 2, none⟩ (.int .i64 v)) = u6 at *
        generalize (u6.setCell ⟨g2, p * 2 + 1, none⟩ (.bool pp)) = u7 at *
        have z8 := frzRow ra 1
        replace rr := rowSet rr ⟨w.heap.size, 1, none⟩ (.int .i64 m) (by show _ ≠ w.heap.size; omega)
        replace ra : (u7.setCell ⟨w.heap.size, 1, none⟩ (.int .i64 m)).heap[w.heap.size]? = some (.cells #[.slice (some ⟨g2, 0, none⟩) d.length c2, .int .i64 m, .bool pp, .int .i64 tk, .bool tp, .int .i64 pd] 24 (0, 0)) := by rw [heap_setCell_same _ _ 1 _ _ _ ra]; rfl
        replace o2 := o2.setOther ⟨w.heap.size, 1, none⟩ (.int .i64 m) (by show w.heap.size < _ ∨ _ ≤ w.heap.size; omega)
        replace h := h.setOther ⟨w.heap.size, 1, none⟩ (.int .i64 m) (by show _ ≤ w.heap.size; omega)
        replace hB := hB.setCell (p := ⟨w.heap.size, 1, none⟩) (by show _ ≤ w.heap.size; omega) (.int .i64 m)
        have s8 : u7.heap.size ≤ (u7.setCell ⟨w.heap.size, 1, none⟩ (.int .i64 m)).heap.size := Nat.le_of_eq (World.size_setCell _ _ _).symm
        have ma8_0 : (u7.setCell ⟨w.heap.size, 1, none⟩ (.int .i64 m)).cell? ⟨w.heap.size, 0, none⟩ = some (.slice (some ⟨g2, 0, none⟩) d.length c2) := cell_of_row _ _ 0 _ _ _ ra
        have ma8_1 : (u7.setCell ⟨w.heap.size, 1, none⟩ (.int .i64 m)).cell? ⟨w.heap.size, 1, none⟩ = some (.int .i64 m) := cell_of_row _ _ 1 _ _ _ ra
        have ma8_2 : (u7.setCell ⟨w.heap.size, 1, none⟩ (.int .i64 m)).cell? ⟨w.heap.size, 2, none⟩ = some (.bool pp) := cell_of_row _ _ 2 _ _ _ ra
        have ma8_3 : (u7.setCell ⟨w.heap.size, 1, none⟩ (.int .i64 m)).cell? ⟨w.heap.size, 3, none⟩ = some (.int .i64 tk) := cell_of_row _ _ 3 _ _ _ ra
        have ma8_4 : (u7.setCell ⟨w.heap.size, 1, none⟩ (.int .i64 m)).cell? ⟨w.heap.size, 4, none⟩ = some (.bool tp) := cell_of_row _ _ 4 _ _ _ ra
        have ma8_5 : (u7.setCell ⟨w.heap.size, 1, none⟩ (.int .i64 m)).cell? ⟨w.heap.size, 5, none⟩ = some (.int .i64 pd) := cell_of_row _ _ 5 _ _ _ ra
        have mr7_0 : (u7.setCell ⟨w.heap.size, 1, none⟩ (.int .i64 m)).cell? ⟨w.heap.size + 1, 0, none⟩ = some (.slice none 0 0) := cell_of_row _ _ 0 _ _ _ rr
        have mr7_1 : (u7.setCell ⟨w.heap.size, 1, none⟩ (.int .i64 m)).cell? ⟨w.heap.size + 1, 1, none⟩ = some (.int .i64 0) := cell_of_row _ _ 1 _ _ _ rr
        have mr7_2 : (u7.setCell ⟨w.heap.size, 1, none⟩ (.int .i64 m)).cell? ⟨w.heap.size + 1, 2, none⟩ = some (.bool false) := cell_of_row _ _ 2 _ _ _ rr
        have mr7_3 : (u7.setCell ⟨w.heap.size, 1, none⟩ (.int .i64 m)).cell? ⟨w.heap.size + 1, 3, none⟩ = some (.int .i64 0) := cell_of_row _ _ 3 _ _ _ rr
        have mr7_4 : (u7.setCell ⟨w.heap.size, 1, none⟩ (.int .i64 m)).cell? ⟨w.heap.size + 1, 4, none⟩ = some (.bool false) := cell_of_row _ _ 4 _ _ _ rr
        have mr7_5 : (u7.setCell ⟨w.heap.size, 1, none⟩ (.int .i64 m)).cell? ⟨w.heap.size + 1, 5, none⟩ = some (.int .i64 0) := cell_of_row _ _ 5 _ _ _ rr
        go_upto_region 8 with fail
        clear z8 ma7_0 ma7_1 ma7_2 ma7_3 ma7_4 ma7_5 mr6_0 mr6_1 mr6_2 mr6_3 mr6_4 mr6_5
        generalize (u7.setCell ⟨w.heap.size, 1, none⟩ (.int .i64 m)) = u8 at *
        have z9 := frzRow ra 2
        replace rr := rowSet rr ⟨w.heap.size, 2, none⟩ (.bool pp) (by show _ ≠ w.heap.size; omega)
        replace ra : (u8.setCell ⟨w.heap.size, 2, none⟩ (.bool pp)).heap[w.heap.size]? = some (.cells #[.slice (some ⟨g2, 0, none⟩) d.length c2, .int .i64 m, .bool pp, .int .i64 tk, .bool tp, .int .i64 pd] 24 (0, 0)) := by rw [heap_setCell_same _ _ 2 _ _ _ ra]; rfl
        replace o2 := o2.setOther ⟨w.heap.size, 2, none⟩ (.bool pp) (by show w.heap.size < _ ∨ _ ≤ w.heap.size; omega)
        replace h := h.setOther ⟨w.heap.size, 2, none⟩ (.bool pp) (by show _ ≤ w.heap.size; omega)
        replace hB := hB.setCell (p := ⟨w.heap.size, 2, none⟩) (by show _ ≤ w.heap.size; omega) (.bool pp)
        have s9 : u8.heap.size ≤ (u8.setCell ⟨w.heap.size, 2, none⟩ (.bool pp)).heap.size := Nat.le_of_eq (World.size_setCell _ _ _).symm
        have ma9_0 : (u8.setCell ⟨w.heap.size, 2, none⟩ (.bool pp)).cell? ⟨w.heap.size, 0, none⟩ = some (.slice (some ⟨g2, 0, none⟩) d.length c2) := cell_of_row _ _ 0 _ _ _ ra
        have ma9_1 : (u8.setCell ⟨w.heap.size, 2, none⟩ (.bool pp)).cell? ⟨w.heap.size, 1, none⟩ = some (.int .i64 m) := cell_of_row _ _ 1 _ _ _ ra
        have ma9_2 : (u8.setCell ⟨w.heap.size, 2, none⟩ (.bool pp)).cell? ⟨w.heap.size, 2, none⟩ = some (.bool pp) := cell_of_row _ _ 2 _ _ _ ra
        have ma9_3 : (u8.setCell ⟨w.heap.size, 2, none⟩ (.bool pp)).cell? ⟨w.heap.size, 3, none⟩ = some (.int .i64 tk) := cell_of_row _ _ 3 _ _ _ ra
        have ma9_4 : (u8.setCell ⟨w.heap.size, 2, none⟩ (.bool pp)).cell? ⟨w.heap.size, 4, none⟩ = some (.bool tp) := cell_of_row _ _ 4 _ _ _ ra
        have ma9_5 : (u8.setCell ⟨w.heap.size, 2, none⟩ (.bool pp)).cell? ⟨w.heap.size, 5, none⟩ = some (.int .i64 pd) := cell_of_row _ _ 5 _ _ _ ra
        have mr8_0 : (u8.setCell ⟨w.heap.size, 2, none⟩ (.bool pp)).cell? ⟨w.heap.size + 1, 0, none⟩ = some (.slice none 0 0) := cell_of_row _ _ 0 _ _ _ rr
        have mr8_1 : (u8.setCell ⟨w.heap.size, 2, none⟩ (.bool pp)).cell? ⟨w.heap.size + 1, 1, none⟩ = some (.int .i64 0) := cell_of_row _ _ 1 _ _ _ rr
        have mr8_2 : (u8.setCell ⟨w.heap.size, 2, none⟩ (.bool pp)).cell? ⟨w.heap.size + 1, 2, none⟩ = some (.bool false) := cell_of_row _ _ 2 _ _ _ rr
        have mr8_3 : (u8.setCell ⟨w.heap.size, 2, none⟩ (.bool pp)).cell? ⟨w.heap.size + 1, 3, none⟩ = some (.int .i64 0) := cell_of_row _ _ 3 _ _ _ rr
        have mr8_4 : (u8.setCell ⟨w.heap.size, 2, none⟩ (.bool pp)).cell? ⟨w.heap.size + 1, 4, none⟩ = some (.bool false) := cell_of_row _ _ 4 _ _ _ rr
        have mr8_5 : (u8.setCell ⟨w.heap.size, 2, none⟩ (.bool pp)).cell? ⟨w.heap.size + 1, 5, none⟩ = some (.int .i64 0) := cell_of_row _ _ 5 _ _ _ rr
        go_upto_region 9 with fail
        clear z9 ma8_0 ma8_1 ma8_2 ma8_3 ma8_4 ma8_5 mr7_0 mr7_1 mr7_2 mr7_3 mr7_4 mr7_5
        generalize (u8.setCell ⟨w.heap.size, 2, none⟩ (.bool pp)) = u9 at *
        have z10 := frzRow ra 5
        replace rr := rowSet rr ⟨w.heap.size, 5, none⟩ (.int .i64 (pd + 1)) (by show _ ≠ w.heap.size; omega)
        replace ra : (u9.setCell ⟨w.heap.size, 5, none⟩ (.int .i64 (pd + 1))).heap[w.heap.size]? = some (.cells #[.slice (some ⟨g2, 0, none⟩) d.length c2, .int .i64 m, .bool pp, .int .i64 tk, .bool tp, .int .i64 (pd + 1)] 24 (0, 0)) := by rw [heap_setCell_same _ _ 5 _ _ _ ra]; rfl
        replace o2 := o2.setOther ⟨w.heap.size, 5, none⟩ (.int .i64 (pd + 1)) (by show w.heap.size < _ ∨ _ ≤ w.heap.size; omega)
        replace h := h.setOther ⟨w.heap.size, 5, none⟩ (.int .i64 (pd + 1)) (by show _ ≤ w.heap.size; omega)
        replace hB := hB.setCell (p := ⟨w.heap.size, 5, none⟩) (by show _ ≤ w.heap.size; omega) (.int .i64 (pd + 1))
        have s10 : u9.heap.size ≤ (u9.setCell ⟨w.heap.size, 5, none⟩ (.int .i64 (pd + 1))).heap.size := Nat.le_of_eq (World.size_setCell _ _ _).symm
        have ma10_0 : (u9.setCell ⟨w.heap.size, 5, none⟩ (.int .i64 (pd + 1))).cell? ⟨w.heap.size, 0, none⟩ = some (.slice (some ⟨g2, 0, none⟩) d.length c2) := cell_of_row _ _ 0 _ _ _ ra
        have ma10_1 : (u9.setCell ⟨w.heap.size, 5, none⟩ (.int .i64 (pd + 1))).cell? ⟨w.heap.size, 1, none⟩ = some (.int .i64 m) := cell_of_row _ _ 1 _ _ _ ra
        have ma10_2 : (u9.setCell ⟨w.heap.size, 5, none⟩ (.int .i64 (pd + 1))).cell? ⟨w.heap.size, 2, none⟩ = some (.bool pp) := cell_of_row _ _ 2 _ _ _ ra
        have ma10_3 : (u9.setCell ⟨w.heap.size, 5, none⟩ (.int .i64 (pd + 1))).cell? ⟨w.heap.size, 3, none⟩ = some (.int .i64 tk) := cell_of_row _ _ 3 _ _ _ ra
        have ma10_4 : (u9.setCell ⟨w.heap.size, 5, none⟩ (.int .i64 (pd + 1))).cell? ⟨w.heap.size, 4, none⟩ = some (.bool tp) := cell_of_row _ _ 4 _ _ _ ra
        have ma10_5 : (u9.setCell ⟨w.heap.size, 5, none⟩ (.int .i64 (pd + 1))).cell? ⟨w.heap.size, 5, none⟩ = some (.int .i64 (pd + 1)) := cell_of_row _ _ 5 _ _ _ ra
        have mr9_0 : (u9.setCell ⟨w.heap.size, 5, none⟩ (.int .i64 (pd + 1))).cell? ⟨w.heap.size + 1, 0, none⟩ = some (.slice none 0 0) := cell_of_row _ _ 0 _ _ _ rr
        have mr9_1 : (u9.setCell ⟨w.heap.size, 5, none⟩ (.int .i64 (pd + 1))).cell? ⟨w.heap.size + 1, 1, none⟩ = some (.int .i64 0) := cell_of_row _ _ 1 _ _ _ rr
        have mr9_2 : (u9.setCell ⟨w.heap.size, 5, none⟩ (.int .i64 (pd + 1))).cell? ⟨w.heap.size + 1, 2, none⟩ = some (.bool false) := cell_of_row _ _ 2 _ _ _ rr
        have mr9_3 : (u9.setCell ⟨w.heap.size, 5, none⟩ (.int .i64 (pd + 1))).cell? ⟨w.heap.size + 1, 3, none⟩ = some (.int .i64 0) := cell_of_row _ _ 3 _ _ _ rr
        have mr9_4 : (u9.setCell ⟨w.heap.size, 5, none⟩ (.int .i64 (pd + 1))).cell? ⟨w.heap.size + 1, 4, none⟩ = some (.bool false) := cell_of_row _ _ 4 _ _ _ rr
        have mr9_5 : (u9.setCell ⟨w.heap.size, 5, none⟩ (.int .i64 (pd + 1))).cell? ⟨w.heap.size + 1, 5, none⟩ = some (.int .i64 0) := cell_of_row _ _ 5 _ _ _ rr
        go_upto_region 10 with fail
        clear z10 ma9_0 ma9_1 ma9_2 ma9_3 ma9_4 ma9_5 mr8_0 mr8_1 mr8_2 mr8_3 mr8_4 mr8_5
        generalize (u9.setCell ⟨w.heap.size, 5, none⟩ (.int .i64 (pd + 1))) = u10 at *
        have z11_0 := frzRow rr 0
        have z11_1 := frzRow rr 1
        have z11_2 := frzRow rr 2
        have z11_3 := frzRow rr 3
        have z11_4 := frzRow rr 4
        have z11_5 := frzRow rr 5
        replace ra := rowSet (rowSet (rowSet (rowSet (rowSet (rowSet (ra) ⟨w.heap.size + 1, 0, none⟩ (.slice (some ⟨g2, 0, none⟩) d.length c2) (by show _ ≠ w.heap.size + 1; omega)) ⟨w.heap.size + 1, 1, none⟩ (.int .i64 m) (by show _ ≠ w.heap.size + 1; omega)) ⟨w.heap.size + 1, 2, none⟩ (.bool pp) (by show _ ≠ w.heap.size + 1; omega)) ⟨w.heap.size + 1, 3, none⟩ (.int .i64 tk) (by show _ ≠ w.heap.size + 1; omega)) ⟨w.heap.size + 1, 4, none⟩ (.bool tp) (by show _ ≠ w.heap.size + 1; omega)) ⟨w.heap.size + 1, 5, none⟩ (.int .i64 (pd + 1)) (by show _ ≠ w.heap.size + 1; omega)
        replace rr := put5 (put4 (put3 (put2 (put1 (put0 (rr) (.slice (some ⟨g2, 0, none⟩) d.length c2)) (.int .i64 m)) (.bool pp)) (.int .i64 tk)) (.bool tp)) (.int .i64 (pd + 1))
        replace o2 := ((((((o2).setOther ⟨w.heap.size + 1, 0, none⟩ (.slice (some ⟨g2, 0, none⟩) d.length c2) (by show w.heap.size + 1 < _ ∨ _ ≤ w.heap.size + 1; omega)).setOther ⟨w.heap.size + 1, 1, none⟩ (.int .i64 m) (by show w.heap.size + 1 < _ ∨ _ ≤ w.heap.size + 1; omega)).setOther ⟨w.heap.size + 1, 2, none⟩ (.bool pp) (by show w.heap.size + 1 < _ ∨ _ ≤ w.heap.size + 1; omega)).setOther ⟨w.heap.size + 1, 3, none⟩ (.int .i64 tk) (by show w.heap.size + 1 < _ ∨ _ ≤ w.heap.size + 1; omega)).setOther ⟨w.heap.size + 1, 4, none⟩ (.bool tp) (by show w.heap.size + 1 < _ ∨ _ ≤ w.heap.size + 1; omega)).setOther ⟨w.heap.size + 1, 5, none⟩ (.int .i64 (pd + 1)) (by show w.heap.size + 1 < _ ∨ _ ≤ w.heap.size + 1; omega)
        replace h := ((((((h).setOther ⟨w.heap.size + 1, 0, none⟩ (.slice (some ⟨g2, 0, none⟩) d.length c2) (by show _ ≤ w.heap.size + 1; omega)).setOther ⟨w.heap.size + 1, 1, none⟩ (.int .i64 m) (by show _ ≤ w.heap.size + 1; omega)).setOther ⟨w.heap.size + 1, 2, none⟩ (.bool pp) (by show _ ≤ w.heap.size + 1; omega)).setOther ⟨w.heap.size + 1, 3, none⟩ (.int .i64 tk) (by show _ ≤ w.heap.size + 1; omega)).setOther ⟨w.heap.size + 1, 4, none⟩ (.bool tp) (by show _ ≤ w.heap.size + 1; omega)).setOther ⟨w.heap.size + 1, 5, none⟩ (.int .i64 (pd + 1)) (by show _ ≤ w.heap.size + 1; omega)
        replace hB := ((((((hB).setCell (p := ⟨w.heap.size + 1, 0, none⟩) (by show _ ≤ w.heap.size + 1; omega) (.slice (some ⟨g2, 0, none⟩) d.length c2)).setCell (p := ⟨w.heap.size + 1, 1, none⟩) (by show _ ≤ w.heap.size + 1; omega) (.int .i64 m)).setCell (p := ⟨w.heap.size + 1, 2, none⟩) (by show _ ≤ w.heap.size + 1; omega) (.bool pp)).setCell (p := ⟨w.heap.size + 1, 3, none⟩) (by show _ ≤ w.heap.size + 1; omega) (.int .i64 tk)).setCell (p := ⟨w.heap.size + 1, 4, none⟩) (by show _ ≤ w.heap.size + 1; omega) (.bool tp)).setCell (p := ⟨w.heap.size + 1, 5, none⟩) (by show _ ≤ w.heap.size + 1; omega) (.int .i64 (pd + 1))
        have s11 : u10.heap.size ≤ ((((((u10.setCell ⟨w.heap.size + 1, 0, none⟩ (.slice (some ⟨g2, 0, none⟩) d.length c2)).setCell ⟨w.heap.size + 1, 1, none⟩ (.int .i64 m)).setCell ⟨w.heap.size + 1, 2, none⟩ (.bool pp)).setCell ⟨w.heap.size + 1, 3, none⟩ (.int .i64 tk)).setCell ⟨w.heap.size + 1, 4, none⟩ (.bool tp)).setCell ⟨w.heap.size + 1, 5, none⟩ (.int .i64 (pd + 1))).heap.size := by simp only [World.size_setCell]; exact Nat.le_refl _
        have ma11_0 : ((((((u10.setCell ⟨w.heap.size + 1, 0, none⟩ (.slice (some ⟨g2, 0, none⟩) d.length c2)).setCell ⟨w.heap.size + 1, 1, none⟩ (.int .i64 m)).setCell ⟨w.heap.size + 1, 2, none⟩ (.bool pp)).setCell ⟨w.heap.size + 1, 3, none⟩ (.int .i64 tk)).setCell ⟨w.heap.size + 1, 4, none⟩ (.bool tp)).setCell ⟨w.heap.size + 1, 5, none⟩ (.int .i64 (pd + 1))).cell? ⟨w.heap.size, 0, none⟩ = some (.slice (some ⟨g2, 0, none⟩) d.length c2) := cell_of_row _ _ 0 _ _ _ ra
        have ma11_1 : ((((((u10.setCell ⟨w.heap.size + 1, 0, none⟩ (.slice (some ⟨g2, 0, none⟩) d.length c2)).setCell ⟨w.heap.size + 1, 1, none⟩ (.int .i64 m)).setCell ⟨w.heap.size + 1, 2, none⟩ (.bool pp)).setCell ⟨w.heap.size + 1, 3, none⟩ (.int .i64 tk)).setCell ⟨w.heap.size + 1, 4, none⟩ (.bool tp)).setCell ⟨w.heap.size + 1, 5, none⟩ (.int .i64 (pd + 1))).cell? ⟨w.heap.size, 1, none⟩ = some (.int .i64 m) := cell_of_row _ _ 1 _ _ _ ra
        have ma11_2 : ((((((u10.setCell ⟨w.heap.size + 1, 0, none⟩ (.slice (some ⟨g2, 0, none⟩) d.length c2)).setCell ⟨w.heap.size + 1, 1, none⟩ (.int .i64 m)).setCell ⟨w.heap.size + 1, 2, none⟩ (.bool pp)).setCell ⟨w.heap.size + 1, 3, none⟩ (.int .i64 tk)).setCell ⟨w.heap.size + 1, 4, none⟩ (.bool tp)).setCell ⟨w.heap.size + 1, 5, none⟩ (.int .i64 (pd + 1))).cell? ⟨w.heap.size, 2, none⟩ = some (.bool pp) := cell_of_row _ _ 2 _ _ _ ra
        have ma11_3 : ((((((u10.setCell ⟨w.heap.size + 1, 0, none⟩ (.slice (some ⟨g2, 0, none⟩) d.length c2)).setCell ⟨w.heap.size + 1, 1, none⟩ (.int .i64 m)).setCell ⟨w.heap.size + 1, 2, none⟩ (.bool pp)).setCell ⟨w.heap.size + 1, 3, none⟩ (.int .i64 tk)).setCell ⟨w.heap.size + 1, 4, none⟩ (.bool tp)).setCell ⟨w.heap.size + 1, 5, none⟩ (.int .i64 (pd + 1))).cell? ⟨w.heap.size, 3, none⟩ = some (.int .i64 tk) := cell_of_row _ _ 3 _ _ _ ra
        have ma11_4 : ((((((u10.setCell ⟨w.heap.size + 1, 0, none⟩ (.slice (some ⟨g2, 0, none⟩) d.length c2)).setCell ⟨w.heap.size + 1, 1, none⟩ (.int .i64 m)).setCell ⟨w.heap.size + 1, 2, none⟩ (.bool pp)).setCell ⟨w.heap.size + 1, 3, none⟩ (.int .i64 tk)).setCell ⟨w.heap.size + 1, 4, none⟩ (.bool tp)).setCell ⟨w.heap.size + 1, 5, none⟩ (.int .i64 (pd + 1))).cell? ⟨w.heap.size, 4, none⟩ = some (.bool tp) := cell_of_row _ _ 4 _ _ _ ra
        have ma11_5 : ((((((u10.setCell ⟨w.heap.size + 1, 0, none⟩ (.slice (some ⟨g2, 0, none⟩) d.length c2)).setCell ⟨w.heap.size + 1, 1, none⟩ (.int .i64 m)).setCell ⟨w.heap.size + 1, 2, none⟩ (.bool pp)).setCell ⟨w.heap.size + 1, 3, none⟩ (.int .i64 tk)).setCell ⟨w.heap.size + 1, 4, none⟩ (.bool tp)).setCell ⟨w.heap.size + 1, 5, none⟩ (.int .i64 (pd + 1))).cell? ⟨w.heap.size, 5, none⟩ = some (.int .i64 (pd + 1)) := cell_of_row _ _ 5 _ _ _ ra
        have mr10_0 : ((((((u10.setCell ⟨w.heap.size + 1, 0, none⟩ (.slice (some ⟨g2, 0, none⟩) d.length c2)).setCell ⟨w.heap.size + 1, 1, none⟩ (.int .i64 m)).setCell ⟨w.heap.size + 1, 2, none⟩ (.bool pp)).setCell ⟨w.heap.size + 1, 3, none⟩ (.int .i64 tk)).setCell ⟨w.heap.size + 1, 4, none⟩ (.bool tp)).setCell ⟨w.heap.size + 1, 5, none⟩ (.int .i64 (pd + 1))).cell? ⟨w.heap.size + 1, 0, none⟩ = some (.slice (some ⟨g2, 0, none⟩) d.length c2) := cell_of_row _ _ 0 _ _ _ rr
        have mr10_1 : ((((((u10.setCell ⟨w.heap.size + 1, 0, none⟩ (.slice (some ⟨g2, 0, none⟩) d.length c2)).setCell ⟨w.heap.size + 1, 1, none⟩ (.int .i64 m)).setCell ⟨w.heap.size + 1, 2, none⟩ (.bool pp)).setCell ⟨w.heap.size + 1, 3, none⟩ (.int .i64 tk)).setCell ⟨w.heap.size + 1, 4, none⟩ (.bool tp)).setCell ⟨w.heap.size + 1, 5, none⟩ (.int .i64 (pd + 1))).cell? ⟨w.heap.size + 1, 1, none⟩ = some (.int .i64 m) := cell_of_row _ _ 1 _ _ _ rr
        have mr10_2 : ((((((u10.setCell ⟨w.heap.size + 1, 0, none⟩ (.slice (some ⟨g2, 0, none⟩) d.length c2)).setCell ⟨w.heap.size + 1, 1, none⟩ (.int .i64 m)).setCell ⟨w.heap.size + 1, 2, none⟩ (.bool pp)).setCell ⟨w.heap.size + 1, 3, none⟩ (.int .i64 tk)).setCell ⟨w.heap.size + 1, 4, none⟩ (.bool tp)).setCell ⟨w.heap.size + 1, 5, none⟩ (.int .i64 (pd + 1))).cell? ⟨w.heap.size + 1, 2, none⟩ = some (.bool pp) := cell_of_row _ _ 2 _ _ _ rr
        have mr10_3 : ((((((u10.setCell ⟨w.heap.size + 1, 0, none⟩ (.slice (some ⟨g2, 0, none⟩) d.length c2)).setCell ⟨w.heap.size + 1, 1, none⟩ (.int .i64 m)).setCell ⟨w.heap.size + 1, 2, none⟩ (.bool pp)).setCell ⟨w.heap.size + 1, 3, none⟩ (.int .i64 tk)).setCell ⟨w.heap.size + 1, 4, none⟩ (.bool tp)).setCell ⟨w.heap.size + 1, 5, none⟩ (.int .i64 (pd + 1))).cell? ⟨w.heap.size + 1, 3, none⟩ = some (.int .i64 tk) := cell_of_row _ _ 3 _ _ _ rr
        have mr10_4 : ((((((u10.setCell ⟨w.heap.size + 1, 0, none⟩ (.slice (some ⟨g2, 0, none⟩) d.length c2)).setCell ⟨w.heap.size + 1, 1, none⟩ (.int .i64 m)).setCell ⟨w.heap.size + 1, 2, none⟩ (.bool pp)).setCell ⟨w.heap.size + 1, 3, none⟩ (.int .i64 tk)).setCell ⟨w.heap.size + 1, 4, none⟩ (.bool tp)).setCell ⟨w.heap.size + 1, 5, none⟩ (.int .i64 (pd + 1))).cell? ⟨w.heap.size + 1, 4, none⟩ = some (.bool tp) := cell_of_row _ _ 4 _ _ _ rr
        have mr10_5 : ((((((u10.setCell ⟨w.heap.size + 1, 0, none⟩ (.slice (some ⟨g2, 0, none⟩) d.length c2)).setCell ⟨w.heap.size + 1, 1, none⟩ (.int .i64 m)).setCell ⟨w.heap.size + 1, 2, none⟩ (.bool pp)).setCell ⟨w.heap.size + 1, 3, none⟩ (.int .i64 tk)).setCell ⟨w.heap.size + 1, 4, none⟩ (.bool tp)).setCell ⟨w.heap.size + 1, 5, none⟩ (.int .i64 (pd + 1))).cell? ⟨w.heap.size + 1, 5, none⟩ = some (.int .i64 (pd + 1)) := cell_of_row _ _ 5 _ _ _ rr
        go_wp2_with fail
        refine bodyPost_ret (v := .tuple #[.agg #[.slice (some ⟨g2, 0, none⟩) d.length c2, .int .i64 m, .bool pp, .int .i64 tk, .bool tp, .int .i64 (pd + 1)], .bool true]) (by simp only [results, Try.results24]; simp [go_sem, mr10_0, mr10_1, mr10_2, mr10_3, mr10_4, mr10_5]) rfl ?_
        rw [HE.out, HF.out, List.length_set]
        exact RetF.of (f := fun x => .tuple #[ansR m pp tk tp (pd + 1) x, .bool true]) o2 (by omega) (by omega) hB
end Go.Proofs.Ythkiollagnjfaaa
