/-
  Walk: the draw of a command with a size.
-/
import Derived.Test.YtiibnkcdeldiaaaC10
namespace Go.Proofs.Ytiibnkcdeldiaaa
open Go.RowKit
set_option linter.unusedSimpArgs false
set_option linter.unusedVariables false
set_option maxHeartbeats 4000000 in
theorem drawCommandValid_any (A : Option Addr) (n c B : Nat) (bs : List Int) (w : World) (h : Sees w B 1 A n c (byts bs)) (hB0 : B ≤ w.heap.size) (hb : ∀ v ∈ bs, 0 ≤ v ∧ v ≤ 255) :
    Calls Try.prog 8 #[.slice A n c] w (RetCmdInt w) := by
  have hB : Below w.heap.size w w := Below.refl _ _
  have h0 := h
  clear h
  have hle : B ≤ w.heap.size := hB0
  have hn1 := below_new w (.cells #[.int .i64 0, .int .i64 0, .int .i64 0, .int .i64 0] 24)
  replace h0 := h0.below hn1 (by omega)
  replace hB := below_later hB hn1 (by omega)
  clear hn1
  have s1 : w.heap.size < (w.alloc (.cells #[.int .i64 0, .int .i64 0, .int .i64 0, .int .i64 0] 24)).heap.size := Nat.lt_of_lt_of_eq (Nat.lt_succ_self _) (World.size_alloc _ _).symm
  have ra : (w.alloc (.cells #[.int .i64 0, .int .i64 0, .int .i64 0, .int .i64 0] 24)).heap[w.heap.size]? = some (.cells #[.int .i64 0, .int .i64 0, .int .i64 0, .int .i64 0] 24 (0, 0)) := by have q := heap_alloc_new w (.cells #[.int .i64 0, .int .i64 0, .int .i64 0, .int .i64 0] 24); (try simp only [World.size_alloc, World.size_setCell] at q); exact q
  go_enter Try.func8, Try.ntmps8
  go_wp2_with fail
  generalize (w.alloc (.cells #[.int .i64 0, .int .i64 0, .int .i64 0, .int .i64 0] 24)) = u1 at *
  refine (open_any _ _ _ _ _ _ h0 (by omega) hb).mono ?_
  rintro e w2 ⟨rfl, hr, b2, s2⟩
  clear h0 hb
  have t2 : u1.heap.size < w2.heap.size := by omega
  replace ra := rowKeep ra b2
  replace hB := below_later hB b2 (by omega)
  clear b2 s2
  go_wp2_with fail
  refine (pick_any (u1.heap.size) (0) (20) _ hr (by omega)).mono ?_
  rintro e w3 ⟨size, rfl, h3, q3, f3, e3⟩
  have s3 := f3.size
  clear hr
  have hr := q3
  clear q3
  replace ra := rowFr ra f3 (by omega)
  replace hB := f3.below hB (by omega) (by omega)
  clear f3
  obtain ⟨size0, size1⟩ : 0 ≤ size ∧ size < 20 := by omega
  clear h3 e3
  go_wp2_with fail
  refine (command_any (u1.heap.size) ((0 + 1)) (size) (3) _ hr (by omega) (by omega) (by omega) (by omega) (by omega)).mono ?_
  rintro e w4 ⟨k, a, cc, v, p4, rfl, c4, d4, q4, f4⟩
  have s4 := f4.size
  clear hr
  have hr := q4
  clear q4
  obtain ⟨d4a, d4b⟩ := d4
  replace ra := rowFr ra f4 (by omega)
  replace hB := f4.below hB (by omega) (by omega)
  clear f4
  have hn5 := below_new w4 (.cells #[.int .i64 k, .int .i64 a, .int .i64 cc, .int .i64 v] 24)
  replace ra := rowKeep ra hn5
  replace hr := hr.below hn5
  replace hB := below_later hB hn5 (by omega)
  clear hn5
  have s5 : w4.heap.size < (w4.alloc (.cells #[.int .i64 k, .int .i64 a, .int .i64 cc, .int .i64 v] 24)).heap.size := Nat.lt_of_lt_of_eq (Nat.lt_succ_self _) (World.size_alloc _ _).symm
  have rx : (w4.alloc (.cells #[.int .i64 k, .int .i64 a, .int .i64 cc, .int .i64 v] 24)).heap[w4.heap.size]? = some (.cells #[.int .i64 k, .int .i64 a, .int .i64 cc, .int .i64 v] 24 (0, 0)) := by have q := heap_alloc_new w4 (.cells #[.int .i64 k, .int .i64 a, .int .i64 cc, .int .i64 v] 24); (try simp only [World.size_alloc, World.size_setCell] at q); exact q
  have mx1_0 : (w4.alloc (.cells #[.int .i64 k, .int .i64 a, .int .i64 cc, .int .i64 v] 24)).cell? ⟨w4.heap.size, 0, none⟩ = some (.int .i64 k) := cell_of_row _ _ 0 _ _ _ rx
  have mx1_1 : (w4.alloc (.cells #[.int .i64 k, .int .i64 a, .int .i64 cc, .int .i64 v] 24)).cell? ⟨w4.heap.size, 1, none⟩ = some (.int .i64 a) := cell_of_row _ _ 1 _ _ _ rx
  have mx1_2 : (w4.alloc (.cells #[.int .i64 k, .int .i64 a, .int .i64 cc, .int .i64 v] 24)).cell? ⟨w4.heap.size, 2, none⟩ = some (.int .i64 cc) := cell_of_row _ _ 2 _ _ _ rx
  have mx1_3 : (w4.alloc (.cells #[.int .i64 k, .int .i64 a, .int .i64 cc, .int .i64 v] 24)).cell? ⟨w4.heap.size, 3, none⟩ = some (.int .i64 v) := cell_of_row _ _ 3 _ _ _ rx
  go_wp2_with fail
  generalize (w4.alloc (.cells #[.int .i64 k, .int .i64 a, .int .i64 cc, .int .i64 v] 24)) = u5 at *
  have hn6 : Below u5.heap.size u5 u5.drew := below_drewN (Below.refl _ _) 1
  have s6 : u5.heap.size ≤ u5.drew.heap.size := Nat.le_refl _
  clear mx1_0 mx1_1 mx1_2 mx1_3
  replace ra := rowKeep ra hn6
  replace rx := rowKeep rx hn6
  replace hr := hr.below hn6
  replace hB := below_later hB hn6 (by omega)
  have mx2_0 : u5.drew.cell? ⟨w4.heap.size, 0, none⟩ = some (.int .i64 k) := cell_of_row _ _ 0 _ _ _ rx
  have mx2_1 : u5.drew.cell? ⟨w4.heap.size, 1, none⟩ = some (.int .i64 a) := cell_of_row _ _ 1 _ _ _ rx
  have mx2_2 : u5.drew.cell? ⟨w4.heap.size, 2, none⟩ = some (.int .i64 cc) := cell_of_row _ _ 2 _ _ _ rx
  have mx2_3 : u5.drew.cell? ⟨w4.heap.size, 3, none⟩ = some (.int .i64 v) := cell_of_row _ _ 3 _ _ _ rx
  clear hn6
  refine wp_region_noPanic ?_
  refine wp_region_held_drew (S := fun w' => w'.cell? ⟨w4.heap.size, 0, none⟩ = some (.int .i64 k) ∧ w'.cell? ⟨w4.heap.size, 1, none⟩ = some (.int .i64 a) ∧ w'.cell? ⟨w4.heap.size, 2, none⟩ = some (.int .i64 cc) ∧ w'.cell? ⟨w4.heap.size, 3, none⟩ = some (.int .i64 v)) (by kernel_rfl) ⟨mx2_0, mx2_1, mx2_2, mx2_3⟩ (fun hHeld => ?_)
  generalize u5.drew = u6 at *
  refine wpAnyH_take (i := 0) (v := ?_) rfl (by kernel_rfl) (by kernel_rfl) (by kernel_rfl) (fun _ _ _ h => h) (Or.inl ⟨by rfl, ?_⟩) (by assumption) ?_
  rotate_left
  · (intro wz hSw; (try dsimp only at hSw); go_simp; try with_reducible rfl)
  simp only [Act.put, List.getElem_toArray, List.getElem_cons_zero, List.getElem_cons_succ, List.setIfInBounds_toArray, List.set_cons_zero, List.set_cons_succ]
  refine wpAnyH_take (i := 1) (v := ?_) rfl (by kernel_rfl) (by kernel_rfl) (by kernel_rfl) (fun _ _ _ h => h) (Or.inl ⟨by rfl, ?_⟩) (by assumption) ?_
  rotate_left
  · (intro wz hSw; (try dsimp only at hSw); go_simp; try with_reducible rfl)
  simp only [Act.put, List.getElem_toArray, List.getElem_cons_zero, List.getElem_cons_succ, List.setIfInBounds_toArray, List.set_cons_zero, List.set_cons_succ]
  refine wpAnyH_take (i := 4) (v := ?_) rfl (by kernel_rfl) (by kernel_rfl) (by kernel_rfl) (fun _ _ _ h => h) (Or.inl ⟨by rfl, ?_⟩) (by assumption) ?_
  rotate_left
  · (intro wz hSw; (try dsimp only at hSw); go_simp; try with_reducible rfl)
  simp only [Act.put, List.getElem_toArray, List.getElem_cons_zero, List.getElem_cons_succ, List.setIfInBounds_toArray, List.set_cons_zero, List.set_cons_succ]
  refine wpAnyH_ready (rs := [2, 3, 5]) (by kernel_rfl) (by simp) ?_
  refine AllReadyH.cons rfl (fun K hK => ?_) ?_
  · have hn7 := below_new u6 (.cells #[.int .i64 size, .int .i64 (-1), .int .i64 65] 3)
    replace ra := rowKeep ra hn7
    replace rx := rowKeep rx hn7
    replace hr := hr.below hn7
    replace hB := below_later hB hn7 (by omega)
    have mx3_0 : (u6.alloc (.cells #[.int .i64 size, .int .i64 (-1), .int .i64 65] 3)).cell? ⟨w4.heap.size, 0, none⟩ = some (.int .i64 k) := cell_of_row _ _ 0 _ _ _ rx
    have mx3_1 : (u6.alloc (.cells #[.int .i64 size, .int .i64 (-1), .int .i64 65] 3)).cell? ⟨w4.heap.size, 1, none⟩ = some (.int .i64 a) := cell_of_row _ _ 1 _ _ _ rx
    have mx3_2 : (u6.alloc (.cells #[.int .i64 size, .int .i64 (-1), .int .i64 65] 3)).cell? ⟨w4.heap.size, 2, none⟩ = some (.int .i64 cc) := cell_of_row _ _ 2 _ _ _ rx
    have mx3_3 : (u6.alloc (.cells #[.int .i64 size, .int .i64 (-1), .int .i64 65] 3)).cell? ⟨w4.heap.size, 3, none⟩ = some (.int .i64 v) := cell_of_row _ _ 3 _ _ _ rx
    clear hn7
    have s7 : u6.heap.size < (u6.alloc (.cells #[.int .i64 size, .int .i64 (-1), .int .i64 65] 3)).heap.size := Nat.lt_of_lt_of_eq (Nat.lt_succ_self _) (World.size_alloc _ _).symm
    have rp : (u6.alloc (.cells #[.int .i64 size, .int .i64 (-1), .int .i64 65] 3)).heap[u6.heap.size]? = some (.cells #[.int .i64 size, .int .i64 (-1), .int .i64 65] 3 (0, 0)) := by have q := heap_alloc_new u6 (.cells #[.int .i64 size, .int .i64 (-1), .int .i64 65] 3); (try simp only [World.size_alloc, World.size_setCell] at q); exact q
    go_simp
    refine hK.out _ _ ⟨mx3_0, mx3_1, mx3_2, mx3_3⟩ (fun hHeld => ?_)
    clear mx2_0 mx2_1 mx2_2 mx2_3
    generalize (u6.alloc (.cells #[.int .i64 size, .int .i64 (-1), .int .i64 65] 3)) = u7 at *
    clear hK K
    try simp only [Act.put, List.getElem_toArray, List.getElem_cons_zero, List.getElem_cons_succ, List.setIfInBounds_toArray, List.set_cons_zero, List.set_cons_succ]
    refine wpAnyH_ready (rs := [3, 5]) (by kernel_rfl) (by simp) ?_
    refine AllReadyH.cons rfl (fun K hK => ?_) ?_
    · have hn8 := below_new u7 (.cells #[.int .i64 0, .int .i64 0, .int .i64 0, .int .i64 0, .int .i64 0, .int .i64 1, .int .i64 2] 3)
      replace ra := rowKeep ra hn8
      replace rx := rowKeep rx hn8
      replace rp := rowKeep rp hn8
      replace hr := hr.below hn8
      replace hB := below_later hB hn8 (by omega)
      have mx4_0 : (u7.alloc (.cells #[.int .i64 0, .int .i64 0, .int .i64 0, .int .i64 0, .int .i64 0, .int .i64 1, .int .i64 2] 3)).cell? ⟨w4.heap.size, 0, none⟩ = some (.int .i64 k) := cell_of_row _ _ 0 _ _ _ rx
      have mx4_1 : (u7.alloc (.cells #[.int .i64 0, .int .i64 0, .int .i64 0, .int .i64 0, .int .i64 0, .int .i64 1, .int .i64 2] 3)).cell? ⟨w4.heap.size, 1, none⟩ = some (.int .i64 a) := cell_of_row _ _ 1 _ _ _ rx
      have mx4_2 : (u7.alloc (.cells #[.int .i64 0, .int .i64 0, .int .i64 0, .int .i64 0, .int .i64 0, .int .i64 1, .int .i64 2] 3)).cell? ⟨w4.heap.size, 2, none⟩ = some (.int .i64 cc) := cell_of_row _ _ 2 _ _ _ rx
      have mx4_3 : (u7.alloc (.cells #[.int .i64 0, .int .i64 0, .int .i64 0, .int .i64 0, .int .i64 0, .int .i64 1, .int .i64 2] 3)).cell? ⟨w4.heap.size, 3, none⟩ = some (.int .i64 v) := cell_of_row _ _ 3 _ _ _ rx
      clear hn8
      have s8 : u7.heap.size < (u7.alloc (.cells #[.int .i64 0, .int .i64 0, .int .i64 0, .int .i64 0, .int .i64 0, .int .i64 1, .int .i64 2] 3)).heap.size := Nat.lt_of_lt_of_eq (Nat.lt_succ_self _) (World.size_alloc _ _).symm
      have rq : (u7.alloc (.cells #[.int .i64 0, .int .i64 0, .int .i64 0, .int .i64 0, .int .i64 0, .int .i64 1, .int .i64 2] 3)).heap[u7.heap.size]? = some (.cells #[.int .i64 0, .int .i64 0, .int .i64 0, .int .i64 0, .int .i64 0, .int .i64 1, .int .i64 2] 3 (0, 0)) := by have q := heap_alloc_new u7 (.cells #[.int .i64 0, .int .i64 0, .int .i64 0, .int .i64 0, .int .i64 0, .int .i64 1, .int .i64 2] 3); (try simp only [World.size_alloc, World.size_setCell] at q); exact q
      go_simp
      refine hK.out _ _ ⟨mx4_0, mx4_1, mx4_2, mx4_3⟩ (fun hHeld => ?_)
      clear mx3_0 mx3_1 mx3_2 mx3_3
      generalize (u7.alloc (.cells #[.int .i64 0, .int .i64 0, .int .i64 0, .int .i64 0, .int .i64 0, .int .i64 1, .int .i64 2] 3)) = u8 at *
      clear hK K
      try simp only [Act.put, List.getElem_toArray, List.getElem_cons_zero, List.getElem_cons_succ, List.setIfInBounds_toArray, List.set_cons_zero, List.set_cons_succ]
      refine wpAnyH_ready (rs := [5]) (by kernel_rfl) (by simp) ?_
      refine AllReadyH.cons rfl (fun K hK => ?_) ?_
      · go_simp
        refine (pick_any (u1.heap.size) (p4) (7) _ hr (by omega)).mono ?_
        rintro e w9 ⟨j, rfl, h9, q9, f9, e9⟩
        have s9 := f9.size
        clear hr
        have hr := q9
        clear q9
        clear mx4_0 mx4_1 mx4_2 mx4_3
        replace ra := rowFr ra f9 (by omega)
        replace rx := rowFr rx f9 (by omega)
        replace rp := rowFr rp f9 (by omega)
        replace rq := rowFr rq f9 (by omega)
        replace hB := f9.below hB (by omega) (by omega)
        have mx5_0 : w9.cell? ⟨w4.heap.size, 0, none⟩ = some (.int .i64 k) := cell_of_row _ _ 0 _ _ _ rx
        have mx5_1 : w9.cell? ⟨w4.heap.size, 1, none⟩ = some (.int .i64 a) := cell_of_row _ _ 1 _ _ _ rx
        have mx5_2 : w9.cell? ⟨w4.heap.size, 2, none⟩ = some (.int .i64 cc) := cell_of_row _ _ 2 _ _ _ rx
        have mx5_3 : w9.cell? ⟨w4.heap.size, 3, none⟩ = some (.int .i64 v) := cell_of_row _ _ 3 _ _ _ rx
        clear f9
        obtain ⟨j0, j1⟩ : 0 ≤ j ∧ j < 7 := by omega
        clear h9 e9
        refine hK.out _ _ ⟨mx5_0, mx5_1, mx5_2, mx5_3⟩ (fun hHeld => ?_)
        clear hK K
        try simp only [Act.put, List.getElem_toArray, List.getElem_cons_zero, List.getElem_cons_succ, List.setIfInBounds_toArray, List.set_cons_zero, List.set_cons_succ]
        refine wpAnyH_take (i := 6) (v := ?_) rfl (by kernel_rfl) (by kernel_rfl) (by kernel_rfl) (fun _ _ _ h => h) (Or.inl ⟨by rfl, ?_⟩) (by assumption) ?_
        rotate_left
        · (intro wz hSw; (try dsimp only at hSw); go_simp; try with_reducible rfl)
        simp only [Act.put, List.getElem_toArray, List.getElem_cons_zero, List.getElem_cons_succ, List.setIfInBounds_toArray, List.set_cons_zero, List.set_cons_succ]
        refine wpAnyH_ready (rs := [7, 10]) (by kernel_rfl) (by simp) ?_
        refine AllReadyH.cons rfl (fun K hK => ?_) ?_
        · obtain ⟨i, hi, hpk⟩ := pickL (fun x => 0 ≤ x ∧ x < 3) [0, 0, 0, 0, 0, 1, 2] j (by decide) j0 j1
          obtain ⟨i0, i1⟩ := hi
          have hcv := lit_at rq hpk
          clear hpk
          go_simp
          refine hK.out _ _ ⟨mx5_0, mx5_1, mx5_2, mx5_3⟩ (fun hHeld => ?_)
          clear hK K
          try simp only [Act.put, List.getElem_toArray, List.getElem_cons_zero, List.getElem_cons_succ, List.setIfInBounds_toArray, List.set_cons_zero, List.set_cons_succ]
          refine wpAnyH_take (i := 8) (v := ?_) rfl (by kernel_rfl) (by kernel_rfl) (by kernel_rfl) (fun _ _ _ h => h) (Or.inl ⟨by rfl, ?_⟩) (by assumption) ?_
          rotate_left
          · (intro wz hSw; (try dsimp only at hSw); go_simp; try with_reducible rfl)
          simp only [Act.put, List.getElem_toArray, List.getElem_cons_zero, List.getElem_cons_succ, List.setIfInBounds_toArray, List.set_cons_zero, List.set_cons_succ]
          refine wpAnyH_ready (rs := [9, 10]) (by kernel_rfl) (by simp) ?_
          refine AllReadyH.cons rfl (fun K hK => ?_) ?_
          · obtain ⟨y, hy, hpk⟩ := pickL (fun x => -1 ≤ x ∧ x ≤ 65) [size, (-1), 65] i (by intro z hz; simp only [List.mem_cons, List.not_mem_nil, or_false] at hz; omega) i0 i1
            have hcw := lit_at rp hpk
            clear hpk
            go_simp
            refine hK.out _ _ ⟨mx5_0, mx5_1, mx5_2, mx5_3⟩ (fun hHeld => ?_)
            clear hK K
            try simp only [Act.put, List.getElem_toArray, List.getElem_cons_zero, List.getElem_cons_succ, List.setIfInBounds_toArray, List.set_cons_zero, List.set_cons_succ]
            refine wpAnyH_ready (rs := [10]) (by kernel_rfl) (by simp) ?_
            refine AllReadyH.cons rfl (fun K hK => ?_) ?_
            · have z10_0 := frzRow ra 0
              have z10_1 := frzRow ra 1
              have z10_2 := frzRow ra 2
              have z10_3 := frzRow ra 3
              have y10_0 : w9.cell? ⟨w.heap.size, 0, none⟩ = some (.int .i64 0) := cell_of_row _ _ 0 _ _ _ ra
              have y10_1 : w9.cell? ⟨w.heap.size, 1, none⟩ = some (.int .i64 0) := cell_of_row _ _ 1 _ _ _ ra
              have y10_2 : w9.cell? ⟨w.heap.size, 2, none⟩ = some (.int .i64 0) := cell_of_row _ _ 2 _ _ _ ra
              have y10_3 : w9.cell? ⟨w.heap.size, 3, none⟩ = some (.int .i64 0) := cell_of_row _ _ 3 _ _ _ ra
              replace rx := rowSet (rowSet (rowSet (rowSet (rx) ⟨w.heap.size, 0, none⟩ (.int .i64 k) (by show _ ≠ w.heap.size; omega)) ⟨w.heap.size, 1, none⟩ (.int .i64 a) (by show _ ≠ w.heap.size; omega)) ⟨w.heap.size, 2, none⟩ (.int .i64 cc) (by show _ ≠ w.heap.size; omega)) ⟨w.heap.size, 3, none⟩ (.int .i64 v) (by show _ ≠ w.heap.size; omega)
              replace rp := rowSet (rowSet (rowSet (rowSet (rp) ⟨w.heap.size, 0, none⟩ (.int .i64 k) (by show _ ≠ w.heap.size; omega)) ⟨w.heap.size, 1, none⟩ (.int .i64 a) (by show _ ≠ w.heap.size; omega)) ⟨w.heap.size, 2, none⟩ (.int .i64 cc) (by show _ ≠ w.heap.size; omega)) ⟨w.heap.size, 3, none⟩ (.int .i64 v) (by show _ ≠ w.heap.size; omega)
              replace rq := rowSet (rowSet (rowSet (rowSet (rq) ⟨w.heap.size, 0, none⟩ (.int .i64 k) (by show _ ≠ w.heap.size; omega)) ⟨w.heap.size, 1, none⟩ (.int .i64 a) (by show _ ≠ w.heap.size; omega)) ⟨w.heap.size, 2, none⟩ (.int .i64 cc) (by show _ ≠ w.heap.size; omega)) ⟨w.heap.size, 3, none⟩ (.int .i64 v) (by show _ ≠ w.heap.size; omega)
              replace ra := set43 (set42 (set41 (set40 (ra) (.int .i64 k)) (.int .i64 a)) (.int .i64 cc)) (.int .i64 v)
              clear hr
              replace hB := ((((hB).setCell (p := ⟨w.heap.size, 0, none⟩) (by show _ ≤ w.heap.size; omega) (.int .i64 k)).setCell (p := ⟨w.heap.size, 1, none⟩) (by show _ ≤ w.heap.size; omega) (.int .i64 a)).setCell (p := ⟨w.heap.size, 2, none⟩) (by show _ ≤ w.heap.size; omega) (.int .i64 cc)).setCell (p := ⟨w.heap.size, 3, none⟩) (by show _ ≤ w.heap.size; omega) (.int .i64 v)
              have s10 : w9.heap.size ≤ ((((w9.setCell ⟨w.heap.size, 0, none⟩ (.int .i64 k)).setCell ⟨w.heap.size, 1, none⟩ (.int .i64 a)).setCell ⟨w.heap.size, 2, none⟩ (.int .i64 cc)).setCell ⟨w.heap.size, 3, none⟩ (.int .i64 v)).heap.size := by simp only [World.size_setCell]; exact Nat.le_refl _
              have mx6_0 : ((((w9.setCell ⟨w.heap.size, 0, none⟩ (.int .i64 k)).setCell ⟨w.heap.size, 1, none⟩ (.int .i64 a)).setCell ⟨w.heap.size, 2, none⟩ (.int .i64 cc)).setCell ⟨w.heap.size, 3, none⟩ (.int .i64 v)).cell? ⟨w4.heap.size, 0, none⟩ = some (.int .i64 k) := cell_of_row _ _ 0 _ _ _ rx
              have mx6_1 : ((((w9.setCell ⟨w.heap.size, 0, none⟩ (.int .i64 k)).setCell ⟨w.heap.size, 1, none⟩ (.int .i64 a)).setCell ⟨w.heap.size, 2, none⟩ (.int .i64 cc)).setCell ⟨w.heap.size, 3, none⟩ (.int .i64 v)).cell? ⟨w4.heap.size, 1, none⟩ = some (.int .i64 a) := cell_of_row _ _ 1 _ _ _ rx
              have mx6_2 : ((((w9.setCell ⟨w.heap.size, 0, none⟩ (.int .i64 k)).setCell ⟨w.heap.size, 1, none⟩ (.int .i64 a)).setCell ⟨w.heap.size, 2, none⟩ (.int .i64 cc)).setCell ⟨w.heap.size, 3, none⟩ (.int .i64 v)).cell? ⟨w4.heap.size, 2, none⟩ = some (.int .i64 cc) := cell_of_row _ _ 2 _ _ _ rx
              have mx6_3 : ((((w9.setCell ⟨w.heap.size, 0, none⟩ (.int .i64 k)).setCell ⟨w.heap.size, 1, none⟩ (.int .i64 a)).setCell ⟨w.heap.size, 2, none⟩ (.int .i64 cc)).setCell ⟨w.heap.size, 3, none⟩ (.int .i64 v)).cell? ⟨w4.heap.size, 3, none⟩ = some (.int .i64 v) := cell_of_row _ _ 3 _ _ _ rx
              go_simp
              refine hK.out _ _ ⟨mx6_0, mx6_1, mx6_2, mx6_3⟩ (fun hHeld => ?_)
              clear z10_0 z10_1 z10_2 z10_3 y10_0 y10_1 y10_2 y10_3 mx5_0 mx5_1 mx5_2 mx5_3
              generalize ((((w9.setCell ⟨w.heap.size, 0, none⟩ (.int .i64 k)).setCell ⟨w.heap.size, 1, none⟩ (.int .i64 a)).setCell ⟨w.heap.size, 2, none⟩ (.int .i64 cc)).setCell ⟨w.heap.size, 3, none⟩ (.int .i64 v)) = u10 at *
              clear hK K
              try simp only [Act.put, List.getElem_toArray, List.getElem_cons_zero, List.getElem_cons_succ, List.setIfInBounds_toArray, List.set_cons_zero, List.set_cons_succ]
              refine wpAnyH_take (i := 11) (v := ?_) rfl (by kernel_rfl) (by kernel_rfl) (by kernel_rfl) (fun _ _ _ h => h) (Or.inl ⟨by rfl, ?_⟩) (by assumption) ?_
              rotate_left
              · (intro wz hSw; (try dsimp only at hSw); go_simp; try with_reducible rfl)
              simp only [Act.put, List.getElem_toArray, List.getElem_cons_zero, List.getElem_cons_succ, List.setIfInBounds_toArray, List.set_cons_zero, List.set_cons_succ]
              refine wpAnyH_done (by kernel_rfl) ?_ _
              refine NoPanic.normal ?_
              have ma1_0 : u10.cell? ⟨w.heap.size, 0, none⟩ = some (.int .i64 k) := cell_of_row _ _ 0 _ _ _ ra
              have ma1_1 : u10.cell? ⟨w.heap.size, 1, none⟩ = some (.int .i64 a) := cell_of_row _ _ 1 _ _ _ ra
              have ma1_2 : u10.cell? ⟨w.heap.size, 2, none⟩ = some (.int .i64 cc) := cell_of_row _ _ 2 _ _ _ ra
              have ma1_3 : u10.cell? ⟨w.heap.size, 3, none⟩ = some (.int .i64 v) := cell_of_row _ _ 3 _ _ _ ra
              go_wp2_with fail
              refine bodyPost_ret (v := .tuple #[.agg #[.int .i64 k, .int .i64 a, .int .i64 cc, .int .i64 v], .int .i64 y]) (by simp [results, Try.results8, go_sem, ma1_0, ma1_1, ma1_2, ma1_3]) rfl ?_
              exact ⟨k, a, cc, v, y, rfl, c4, hy, hB⟩
            exact AllReadyH.nil
          refine AllReadyH.cons rfl (fun K hK => ?_) ?_
          · have z10_0 := frzRow ra 0
            have z10_1 := frzRow ra 1
            have z10_2 := frzRow ra 2
            have z10_3 := frzRow ra 3
            have y10_0 : w9.cell? ⟨w.heap.size, 0, none⟩ = some (.int .i64 0) := cell_of_row _ _ 0 _ _ _ ra
            have y10_1 : w9.cell? ⟨w.heap.size, 1, none⟩ = some (.int .i64 0) := cell_of_row _ _ 1 _ _ _ ra
            have y10_2 : w9.cell? ⟨w.heap.size, 2, none⟩ = some (.int .i64 0) := cell_of_row _ _ 2 _ _ _ ra
            have y10_3 : w9.cell? ⟨w.heap.size, 3, none⟩ = some (.int .i64 0) := cell_of_row _ _ 3 _ _ _ ra
            replace rx := rowSet (rowSet (rowSet (rowSet (rx) ⟨w.heap.size, 0, none⟩ (.int .i64 k) (by show _ ≠ w.heap.size; omega)) ⟨w.heap.size, 1, none⟩ (.int .i64 a) (by show _ ≠ w.heap.size; omega)) ⟨w.heap.size, 2, none⟩ (.int .i64 cc) (by show _ ≠ w.heap.size; omega)) ⟨w.heap.size, 3, none⟩ (.int .i64 v) (by show _ ≠ w.heap.size; omega)
            replace rp := rowSet (rowSet (rowSet (rowSet (rp) ⟨w.heap.size, 0, none⟩ (.int .i64 k) (by show _ ≠ w.heap.size; omega)) ⟨w.heap.size, 1, none⟩ (.int .i64 a) (by show _ ≠ w.heap.size; omega)) ⟨w.heap.size, 2, none⟩ (.int .i64 cc) (by show _ ≠ w.heap.size; omega)) ⟨w.heap.size, 3, none⟩ (.int .i64 v) (by show _ ≠ w.heap.size; omega)
            replace rq := rowSet (rowSet (rowSet (rowSet (rq) ⟨w.heap.size, 0, none⟩ (.int .i64 k) (by show _ ≠ w.heap.size; omega)) ⟨w.heap.size, 1, none⟩ (.int .i64 a) (by show _ ≠ w.heap.size; omega)) ⟨w.heap.size, 2, none⟩ (.int .i64 cc) (by show _ ≠ w.heap.size; omega)) ⟨w.heap.size, 3, none⟩ (.int .i64 v) (by show _ ≠ w.heap.size; omega)
            replace ra := set43 (set42 (set41 (set40 (ra) (.int .i64 k)) (.int .i64 a)) (.int .i64 cc)) (.int .i64 v)
            clear hr
            replace hB := ((((hB).setCell (p := ⟨w.heap.size, 0, none⟩) (by show _ ≤ w.heap.size; omega) (.int .i64 k)).setCell (p := ⟨w.heap.size, 1, none⟩) (by show _ ≤ w.heap.size; omega) (.int .i64 a)).setCell (p := ⟨w.heap.size, 2, none⟩) (by show _ ≤ w.heap.size; omega) (.int .i64 cc)).setCell (p := ⟨w.heap.size, 3, none⟩) (by show _ ≤ w.heap.size; omega) (.int .i64 v)
            have s10 : w9.heap.size ≤ ((((w9.setCell ⟨w.heap.size, 0, none⟩ (.int .i64 k)).setCell ⟨w.heap.size, 1, none⟩ (.int .i64 a)).setCell ⟨w.heap.size, 2, none⟩ (.int .i64 cc)).setCell ⟨w.heap.size, 3, none⟩ (.int .i64 v)).heap.size := by simp only [World.size_setCell]; exact Nat.le_refl _
            have mx6_0 : ((((w9.setCell ⟨w.heap.size, 0, none⟩ (.int .i64 k)).setCell ⟨w.heap.size, 1, none⟩ (.int .i64 a)).setCell ⟨w.heap.size, 2, none⟩ (.int .i64 cc)).setCell ⟨w.heap.size, 3, none⟩ (.int .i64 v)).cell? ⟨w4.heap.size, 0, none⟩ = some (.int .i64 k) := cell_of_row _ _ 0 _ _ _ rx
            have mx6_1 : ((((w9.setCell ⟨w.heap.size, 0, none⟩ (.int .i64 k)).setCell ⟨w.heap.size, 1, none⟩ (.int .i64 a)).setCell ⟨w.heap.size, 2, none⟩ (.int .i64 cc)).setCell ⟨w.heap.size, 3, none⟩ (.int .i64 v)).cell? ⟨w4.heap.size, 1, none⟩ = some (.int .i64 a) := cell_of_row _ _ 1 _ _ _ rx
            have mx6_2 : ((((w9.setCell ⟨w.heap.size, 0, none⟩ (.int .i64 k)).setCell ⟨w.heap.size, 1, none⟩ (.int .i64 a)).setCell ⟨w.heap.size, 2, none⟩ (.int .i64 cc)).setCell ⟨w.heap.size, 3, none⟩ (.int .i64 v)).cell? ⟨w4.heap.size, 2, none⟩ = some (.int .i64 cc) := cell_of_row _ _ 2 _ _ _ rx
            have mx6_3 : ((((w9.setCell ⟨w.heap.size, 0, none⟩ (.int .i64 k)).setCell ⟨w.heap.size, 1, none⟩ (.int .i64 a)).setCell ⟨w.heap.size, 2, none⟩ (.int .i64 cc)).setCell ⟨w.heap.size, 3, none⟩ (.int .i64 v)).cell? ⟨w4.heap.size, 3, none⟩ = some (.int .i64 v) := cell_of_row _ _ 3 _ _ _ rx
            go_simp
            refine hK.out _ _ ⟨mx6_0, mx6_1, mx6_2, mx6_3⟩ (fun hHeld => ?_)
            clear z10_0 z10_1 z10_2 z10_3 y10_0 y10_1 y10_2 y10_3 mx5_0 mx5_1 mx5_2 mx5_3
            generalize ((((w9.setCell ⟨w.heap.size, 0, none⟩ (.int .i64 k)).setCell ⟨w.heap.size, 1, none⟩ (.int .i64 a)).setCell ⟨w.heap.size, 2, none⟩ (.int .i64 cc)).setCell ⟨w.heap.size, 3, none⟩ (.int .i64 v)) = u10 at *
            clear hK K
            try simp only [Act.put, List.getElem_toArray, List.getElem_cons_zero, List.getElem_cons_succ, List.setIfInBounds_toArray, List.set_cons_zero, List.set_cons_succ]
            refine wpAnyH_ready (rs := [9]) (by kernel_rfl) (by simp) ?_
            refine AllReadyH.cons rfl (fun K hK => ?_) ?_
            · obtain ⟨y, hy, hpk⟩ := pickL (fun x => -1 ≤ x ∧ x ≤ 65) [size, (-1), 65] i (by intro z hz; simp only [List.mem_cons, List.not_mem_nil, or_false] at hz; omega) i0 i1
              have hcw := lit_at rp hpk
              clear hpk
              go_simp
              refine hK.out _ _ ⟨mx6_0, mx6_1, mx6_2, mx6_3⟩ (fun hHeld => ?_)
              clear hK K
              try simp only [Act.put, List.getElem_toArray, List.getElem_cons_zero, List.getElem_cons_succ, List.setIfInBounds_toArray, List.set_cons_zero, List.set_cons_succ]
              refine wpAnyH_take (i := 11) (v := ?_) rfl (by kernel_rfl) (by kernel_rfl) (by kernel_rfl) (fun _ _ _ h => h) (Or.inl ⟨by rfl, ?_⟩) (by assumption) ?_
              rotate_left
              · (intro wz hSw; (try dsimp only at hSw); go_simp; try with_reducible rfl)
              simp only [Act.put, List.getElem_toArray, List.getElem_cons_zero, List.getElem_cons_succ, List.setIfInBounds_toArray, List.set_cons_zero, List.set_cons_succ]
              refine wpAnyH_done (by kernel_rfl) ?_ _
              refine NoPanic.normal ?_
              have ma1_0 : u10.cell? ⟨w.heap.size, 0, none⟩ = some (.int .i64 k) := cell_of_row _ _ 0 _ _ _ ra
              have ma1_1 : u10.cell? ⟨w.heap.size, 1, none⟩ = some (.int .i64 a) := cell_of_row _ _ 1 _ _ _ ra
              have ma1_2 : u10.cell? ⟨w.heap.size, 2, none⟩ = some (.int .i64 cc) := cell_of_row _ _ 2 _ _ _ ra
              have ma1_3 : u10.cell? ⟨w.heap.size, 3, none⟩ = some (.int .i64 v) := cell_of_row _ _ 3 _ _ _ ra
              go_wp2_with fail
              refine bodyPost_ret (v := .tuple #[.agg #[.int .i64 k, .int .i64 a, .int .i64 cc, .int .i64 v], .int .i64 y]) (by simp [results, Try.results8, go_sem, ma1_0, ma1_1, ma1_2, ma1_3]) rfl ?_
              exact ⟨k, a, cc, v, y, rfl, c4, hy, hB⟩
            exact AllReadyH.nil
          exact AllReadyH.nil
        refine AllReadyH.cons rfl (fun K hK => ?_) ?_
        · have z10_0 := frzRow ra 0
          have z10_1 := frzRow ra 1
          have z10_2 := frzRow ra 2
          have z10_3 := frzRow ra 3
          have y10_0 : w9.cell? ⟨w.heap.size, 0, none⟩ = some (.int .i64 0) := cell_of_row _ _ 0 _ _ _ ra
          have y10_1 : w9.cell? ⟨w.heap.size, 1, none⟩ = some (.int .i64 0) := cell_of_row _ _ 1 _ _ _ ra
          have y10_2 : w9.cell? ⟨w.heap.size, 2, none⟩ = some (.int .i64 0) := cell_of_row _ _ 2 _ _ _ ra
          have y10_3 : w9.cell? ⟨w.heap.size, 3, none⟩ = some (.int .i64 0) := cell_of_row _ _ 3 _ _ _ ra
          replace rx := rowSet (rowSet (rowSet (rowSet (rx) ⟨w.heap.size, 0, none⟩ (.int .i64 k) (by show _ ≠ w.heap.size; omega)) ⟨w.heap.size, 1, none⟩ (.int .i64 a) (by show _ ≠ w.heap.size; omega)) ⟨w.heap.size, 2, none⟩ (.int .i64 cc) (by show _ ≠ w.heap.size; omega)) ⟨w.heap.size, 3, none⟩ (.int .i64 v) (by show _ ≠ w.heap.size; omega)
          replace rp := rowSet (rowSet (rowSet (rowSet (rp) ⟨w.heap.size, 0, none⟩ (.int .i64 k) (by show _ ≠ w.heap.size; omega)) ⟨w.heap.size, 1, none⟩ (.int .i64 a) (by show _ ≠ w.heap.size; omega)) ⟨w.heap.size, 2, none⟩ (.int .i64 cc) (by show _ ≠ w.heap.size; omega)) ⟨w.heap.size, 3, none⟩ (.int .i64 v) (by show _ ≠ w.heap.size; omega)
          replace rq := rowSet (rowSet (rowSet (rowSet (rq) ⟨w.heap.size, 0, none⟩ (.int .i64 k) (by show _ ≠ w.heap.size; omega)) ⟨w.heap.size, 1, none⟩ (.int .i64 a) (by show _ ≠ w.heap.size; omega)) ⟨w.heap.size, 2, none⟩ (.int .i64 cc) (by show _ ≠ w.heap.size; omega)) ⟨w.heap.size, 3, none⟩ (.int .i64 v) (by show _ ≠ w.heap.size; omega)
          replace ra := set43 (set42 (set41 (set40 (ra) (.int .i64 k)) (.int .i64 a)) (.int .i64 cc)) (.int .i64 v)
          clear hr
          replace hB := ((((hB).setCell (p := ⟨w.heap.size, 0, none⟩) (by show _ ≤ w.heap.size; omega) (.int .i64 k)).setCell (p := ⟨w.heap.size, 1, none⟩) (by show _ ≤ w.heap.size; omega) (.int .i64 a)).setCell (p := ⟨w.heap.size, 2, none⟩) (by show _ ≤ w.heap.size; omega) (.int .i64 cc)).setCell (p := ⟨w.heap.size, 3, none⟩) (by show _ ≤ w.heap.size; omega) (.int .i64 v)
          have s10 : w9.heap.size ≤ ((((w9.setCell ⟨w.heap.size, 0, none⟩ (.int .i64 k)).setCell ⟨w.heap.size, 1, none⟩ (.int .i64 a)).setCell ⟨w.heap.size, 2, none⟩ (.int .i64 cc)).setCell ⟨w.heap.size, 3, none⟩ (.int .i64 v)).heap.size := by simp only [World.size_setCell]; exact Nat.le_refl _
          have mx6_0 : ((((w9.setCell ⟨w.heap.size, 0, none⟩ (.int .i64 k)).setCell ⟨w.heap.size, 1, none⟩ (.int .i64 a)).setCell ⟨w.heap.size, 2, none⟩ (.int .i64 cc)).setCell ⟨w.heap.size, 3, none⟩ (.int .i64 v)).cell? ⟨w4.heap.size, 0, none⟩ = some (.int .i64 k) := cell_of_row _ _ 0 _ _ _ rx
          have mx6_1 : ((((w9.setCell ⟨w.heap.size, 0, none⟩ (.int .i64 k)).setCell ⟨w.heap.size, 1, none⟩ (.int .i64 a)).setCell ⟨w.heap.size, 2, none⟩ (.int .i64 cc)).setCell ⟨w.heap.size, 3, none⟩ (.int .i64 v)).cell? ⟨w4.heap.size, 1, none⟩ = some (.int .i64 a) := cell_of_row _ _ 1 _ _ _ rx
          have mx6_2 : ((((w9.setCell ⟨w.heap.size, 0, none⟩ (.int .i64 k)).setCell ⟨w.heap.size, 1, none⟩ (.int .i64 a)).setCell ⟨w.heap.size, 2, none⟩ (.int .i64 cc)).setCell ⟨w.heap.size, 3, none⟩ (.int .i64 v)).cell? ⟨w4.heap.size, 2, none⟩ = some (.int .i64 cc) := cell_of_row _ _ 2 _ _ _ rx
          have mx6_3 : ((((w9.setCell ⟨w.heap.size, 0, none⟩ (.int .i64 k)).setCell ⟨w.heap.size, 1, none⟩ (.int .i64 a)).setCell ⟨w.heap.size, 2, none⟩ (.int .i64 cc)).setCell ⟨w.heap.size, 3, none⟩ (.int .i64 v)).cell? ⟨w4.heap.size, 3, none⟩ = some (.int .i64 v) := cell_of_row _ _ 3 _ _ _ rx
          go_simp
          refine hK.out _ _ ⟨mx6_0, mx6_1, mx6_2, mx6_3⟩ (fun hHeld => ?_)
          clear z10_0 z10_1 z10_2 z10_3 y10_0 y10_1 y10_2 y10_3 mx5_0 mx5_1 mx5_2 mx5_3
          generalize ((((w9.setCell ⟨w.heap.size, 0, none⟩ (.int .i64 k)).setCell ⟨w.heap.size, 1, none⟩ (.int .i64 a)).setCell ⟨w.heap.size, 2, none⟩ (.int .i64 cc)).setCell ⟨w.heap.size, 3, none⟩ (.int .i64 v)) = u10 at *
          clear hK K
          try simp only [Act.put, List.getElem_toArray, List.getElem_cons_zero, List.getElem_cons_succ, List.setIfInBounds_toArray, List.set_cons_zero, List.set_cons_succ]
          refine wpAnyH_ready (rs := [7]) (by kernel_rfl) (by simp) ?_
          refine AllReadyH.cons rfl (fun K hK => ?_) ?_
          · obtain ⟨i, hi, hpk⟩ := pickL (fun x => 0 ≤ x ∧ x < 3) [0, 0, 0, 0, 0, 1, 2] j (by decide) j0 j1
            obtain ⟨i0, i1⟩ := hi
            have hcv := lit_at rq hpk
            clear hpk
            go_simp
            refine hK.out _ _ ⟨mx6_0, mx6_1, mx6_2, mx6_3⟩ (fun hHeld => ?_)
            clear hK K
            try simp only [Act.put, List.getElem_toArray, List.getElem_cons_zero, List.getElem_cons_succ, List.setIfInBounds_toArray, List.set_cons_zero, List.set_cons_succ]
            refine wpAnyH_take (i := 8) (v := ?_) rfl (by kernel_rfl) (by kernel_rfl) (by kernel_rfl) (fun _ _ _ h => h) (Or.inl ⟨by rfl, ?_⟩) (by assumption) ?_
            rotate_left
            · (intro wz hSw; (try dsimp only at hSw); go_simp; try with_reducible rfl)
            simp only [Act.put, List.getElem_toArray, List.getElem_cons_zero, List.getElem_cons_succ, List.setIfInBounds_toArray, List.set_cons_zero, List.set_cons_succ]
            refine wpAnyH_ready (rs := [9]) (by kernel_rfl) (by simp) ?_
            refine AllReadyH.cons rfl (fun K hK => ?_) ?_
            · obtain ⟨y, hy, hpk⟩ := pickL (fun x => -1 ≤ x ∧ x ≤ 65) [size, (-1), 65] i (by intro z hz; simp only [List.mem_cons, List.not_mem_nil, or_false] at hz; omega) i0 i1
              have hcw := lit_at rp hpk
              clear hpk
              go_simp
              refine hK.out _ _ ⟨mx6_0, mx6_1, mx6_2, mx6_3⟩ (fun hHeld => ?_)
              clear hK K
              try simp only [Act.put, List.getElem_toArray, List.getElem_cons_zero, List.getElem_cons_succ, List.setIfInBounds_toArray, List.set_cons_zero, List.set_cons_succ]
              refine wpAnyH_take (i := 11) (v := ?_) rfl (by kernel_rfl) (by kernel_rfl) (by kernel_rfl) (fun _ _ _ h => h) (Or.inl ⟨by rfl, ?_⟩) (by assumption) ?_
              rotate_left
              · (intro wz hSw; (try dsimp only at hSw); go_simp; try with_reducible rfl)
              simp only [Act.put, List.getElem_toArray, List.getElem_cons_zero, List.getElem_cons_succ, List.setIfInBounds_toArray, List.set_cons_zero, List.set_cons_succ]
              refine wpAnyH_done (by kernel_rfl) ?_ _
              refine NoPanic.normal ?_
              have ma1_0 : u10.cell? ⟨w.heap.size, 0, none⟩ = some (.int .i64 k) := cell_of_row _ _ 0 _ _ _ ra
              have ma1_1 : u10.cell? ⟨w.heap.size, 1, none⟩ = some (.int .i64 a) := cell_of_row _ _ 1 _ _ _ ra
              have ma1_2 : u10.cell? ⟨w.heap.size, 2, none⟩ = some (.int .i64 cc) := cell_of_row _ _ 2 _ _ _ ra
              have ma1_3 : u10.cell? ⟨w.heap.size, 3, none⟩ = some (.int .i64 v) := cell_of_row _ _ 3 _ _ _ ra
              go_wp2_with fail
              refine bodyPost_ret (v := .tuple #[.agg #[.int .i64 k, .int .i64 a, .int .i64 cc, .int .i64 v], .int .i64 y]) (by simp [results, Try.results8, go_sem, ma1_0, ma1_1, ma1_2, ma1_3]) rfl ?_
              exact ⟨k, a, cc, v, y, rfl, c4, hy, hB⟩
            exact AllReadyH.nil
          exact AllReadyH.nil
        exact AllReadyH.nil
      exact AllReadyH.nil
    refine AllReadyH.cons rfl (fun K hK => ?_) ?_
    · go_simp
      refine (pick_any (u1.heap.size) (p4) (7) _ hr (by omega)).mono ?_
      rintro e w8 ⟨j, rfl, h8, q8, f8, e8⟩
      have s8 := f8.size
      clear hr
      have hr := q8
      clear q8
      clear mx3_0 mx3_1 mx3_2 mx3_3
      replace ra := rowFr ra f8 (by omega)
      replace rx := rowFr rx f8 (by omega)
      replace rp := rowFr rp f8 (by omega)
      replace hB := f8.below hB (by omega) (by omega)
      have mx4_0 : w8.cell? ⟨w4.heap.size, 0, none⟩ = some (.int .i64 k) := cell_of_row _ _ 0 _ _ _ rx
      have mx4_1 : w8.cell? ⟨w4.heap.size, 1, none⟩ = some (.int .i64 a) := cell_of_row _ _ 1 _ _ _ rx
      have mx4_2 : w8.cell? ⟨w4.heap.size, 2, none⟩ = some (.int .i64 cc) := cell_of_row _ _ 2 _ _ _ rx
      have mx4_3 : w8.cell? ⟨w4.heap.size, 3, none⟩ = some (.int .i64 v) := cell_of_row _ _ 3 _ _ _ rx
      clear f8
      obtain ⟨j0, j1⟩ : 0 ≤ j ∧ j < 7 := by omega
      clear h8 e8
      refine hK.out _ _ ⟨mx4_0, mx4_1, mx4_2, mx4_3⟩ (fun hHeld => ?_)
      clear hK K
      try simp only [Act.put, List.getElem_toArray, List.getElem_cons_zero, List.getElem_cons_succ, List.setIfInBounds_toArray, List.set_cons_zero, List.set_cons_succ]
      refine wpAnyH_ready (rs := [3, 10]) (by kernel_rfl) (by simp) ?_
      refine AllReadyH.cons rfl (fun K hK => ?_) ?_
      · have hn9 := below_new w8 (.cells #[.int .i64 0, .int .i64 0, .int .i64 0, .int .i64 0, .int .i64 0, .int .i64 1, .int .i64 2] 3)
        replace ra := rowKeep ra hn9
        replace rx := rowKeep rx hn9
        replace rp := rowKeep rp hn9
        replace hr := hr.below hn9
        replace hB := below_later hB hn9 (by omega)
        have mx5_0 : (w8.alloc (.cells #[.int .i64 0, .int .i64 0, .int .i64 0, .int .i64 0, .int .i64 0, .int .i64 1, .int .i64 2] 3)).cell? ⟨w4.heap.size, 0, none⟩ = some (.int .i64 k) := cell_of_row _ _ 0 _ _ _ rx
        have mx5_1 : (w8.alloc (.cells #[.int .i64 0, .int .i64 0, .int .i64 0, .int .i64 0, .int .i64 0, .int .i64 1, .int .i64 2] 3)).cell? ⟨w4.heap.size, 1, none⟩ = some (.int .i64 a) := cell_of_row _ _ 1 _ _ _ rx
        have mx5_2 : (w8.alloc (.cells #[.int .i64 0, .int .i64 0, .int .i64 0, .int .i64 0, .int .i64 0, .int .i64 1, .int .i64 2] 3)).cell? ⟨w4.heap.size, 2, none⟩ = some (.int .i64 cc) := cell_of_row _ _ 2 _ _ _ rx
        have mx5_3 : (w8.alloc (.cells #[.int .i64 0, .int .i64 0, .int .i64 0, .int .i64 0, .int .i64 0, .int .i64 1, .int .i64 2] 3)).cell? ⟨w4.heap.size, 3, none⟩ = some (.int .i64 v) := cell_of_row _ _ 3 _ _ _ rx
        clear hn9
        have s9 : w8.heap.size < (w8.alloc (.cells #[.int .i64 0, .int .i64 0, .int .i64 0, .int .i64 0, .int .i64 0, .int .i64 1, .int .i64 2] 3)).heap.size := Nat.lt_of_lt_of_eq (Nat.lt_succ_self _) (World.size_alloc _ _).symm
        have rq : (w8.alloc (.cells #[.int .i64 0, .int .i64 0, .int .i64 0, .int .i64 0, .int .i64 0, .int .i64 1, .int .i64 2] 3)).heap[w8.heap.size]? = some (.cells #[.int .i64 0, .int .i64 0, .int .i64 0, .int .i64 0, .int .i64 0, .int .i64 1, .int .i64 2] 3 (0, 0)) := by have q := heap_alloc_new w8 (.cells #[.int .i64 0, .int .i64 0, .int .i64 0, .int .i64 0, .int .i64 0, .int .i64 1, .int .i64 2] 3); (try simp only [World.size_alloc, World.size_setCell] at q); exact q
        go_simp
        refine hK.out _ _ ⟨mx5_0, mx5_1, mx5_2, mx5_3⟩ (fun hHeld => ?_)
        clear mx4_0 mx4_1 mx4_2 mx4_3
        generalize (w8.alloc (.cells #[.int .i64 0, .int .i64 0, .int .i64 0, .int .i64 0, .int .i64 0, .int .i64 1, .int .i64 2] 3)) = u9 at *
        clear hK K
        try simp only [Act.put, List.getElem_toArray, List.getElem_cons_zero, List.getElem_cons_succ, List.setIfInBounds_toArray, List.set_cons_zero, List.set_cons_succ]
        refine wpAnyH_take (i := 6) (v := ?_) rfl (by kernel_rfl) (by kernel_rfl) (by kernel_rfl) (fun _ _ _ h => h) (Or.inl ⟨by rfl, ?_⟩) (by assumption) ?_
        rotate_left
        · (intro wz hSw; (try dsimp only at hSw); go_simp; try with_reducible rfl)
        simp only [Act.put, List.getElem_toArray, List.getElem_cons_zero, List.getElem_cons_succ, List.setIfInBounds_toArray, List.set_cons_zero, List.set_cons_succ]
        refine wpAnyH_ready (rs := [7, 10]) (by kernel_rfl) (by simp) ?_
        refine AllReadyH.cons rfl (fun K hK => ?_) ?_
        · obtain ⟨i, hi, hpk⟩ := pickL (fun x => 0 ≤ x ∧ x < 3) [0, 0, 0, 0, 0, 1, 2] j (by decide) j0 j1
          obtain ⟨i0, i1⟩ := hi
          have hcv := lit_at rq hpk
          clear hpk
          go_simp
          refine hK.out _ _ ⟨mx5_0, mx5_1, mx5_2, mx5_3⟩ (fun hHeld => ?_)
          clear hK K
          try simp only [Act.put, List.getElem_toArray, List.getElem_cons_zero, List.getElem_cons_succ, List.setIfInBounds_toArray, List.set_cons_zero, List.set_cons_succ]
          refine wpAnyH_take (i := 8) (v := ?_) rfl (by kernel_rfl) (by kernel_rfl) (by kernel_rfl) (fun _ _ _ h => h) (Or.inl ⟨by rfl, ?_⟩) (by assumption) ?_
          rotate_left
          · (intro wz hSw; (try dsimp only at hSw); go_simp; try with_reducible rfl)
          simp only [Act.put, List.getElem_toArray, List.getElem_cons_zero, List.getElem_cons_succ, List.setIfInBounds_toArray, List.set_cons_zero, List.set_cons_succ]
          refine wpAnyH_ready (rs := [9, 10]) (by kernel_rfl) (by simp) ?_
          refine AllReadyH.cons rfl (fun K hK => ?_) ?_
          · obtain ⟨y, hy, hpk⟩ := pickL (fun x => -1 ≤ x ∧ x ≤ 65) [size, (-1), 65] i (by intro z hz; simp only [List.mem_cons, List.not_mem_nil, or_false] at hz; omega) i0 i1
            have hcw := lit_at rp hpk
            clear hpk
            go_simp
            refine hK.out _ _ ⟨mx5_0, mx5_1, mx5_2, mx5_3⟩ (fun hHeld => ?_)
            clear hK K
            try simp only [Act.put, List.getElem_toArray, List.getElem_cons_zero, List.getElem_cons_succ, List.setIfInBounds_toArray, List.set_cons_zero, List.set_cons_succ]
            refine wpAnyH_ready (rs := [10]) (by kernel_rfl) (by simp) ?_
            refine AllReadyH.cons rfl (fun K hK => ?_) ?_
            · have z10_0 := frzRow ra 0
              have z10_1 := frzRow ra 1
              have z10_2 := frzRow ra 2
              have z10_3 := frzRow ra 3
              have y10_0 : u9.cell? ⟨w.heap.size, 0, none⟩ = some (.int .i64 0) := cell_of_row _ _ 0 _ _ _ ra
              have y10_1 : u9.cell? ⟨w.heap.size, 1, none⟩ = some (.int .i64 0) := cell_of_row _ _ 1 _ _ _ ra
              have y10_2 : u9.cell? ⟨w.heap.size, 2, none⟩ = some (.int .i64 0) := cell_of_row _ _ 2 _ _ _ ra
              have y10_3 : u9.cell? ⟨w.heap.size, 3, none⟩ = some (.int .i64 0) := cell_of_row _ _ 3 _ _ _ ra
              replace rx := rowSet (rowSet (rowSet (rowSet (rx) ⟨w.heap.size, 0, none⟩ (.int .i64 k) (by show _ ≠ w.heap.size; omega)) ⟨w.heap.size, 1, none⟩ (.int .i64 a) (by show _ ≠ w.heap.size; omega)) ⟨w.heap.size, 2, none⟩ (.int .i64 cc) (by show _ ≠ w.heap.size; omega)) ⟨w.heap.size, 3, none⟩ (.int .i64 v) (by show _ ≠ w.heap.size; omega)
              replace rp := rowSet (rowSet (rowSet (rowSet (rp) ⟨w.heap.size, 0, none⟩ (.int .i64 k) (by show _ ≠ w.heap.size; omega)) ⟨w.heap.size, 1, none⟩ (.int .i64 a) (by show _ ≠ w.heap.size; omega)) ⟨w.heap.size, 2, none⟩ (.int .i64 cc) (by show _ ≠ w.heap.size; omega)) ⟨w.heap.size, 3, none⟩ (.int .i64 v) (by show _ ≠ w.heap.size; omega)
              replace rq := rowSet (rowSet (rowSet (rowSet (rq) ⟨w.heap.size, 0, none⟩ (.int .i64 k) (by show _ ≠ w.heap.size; omega)) ⟨w.heap.size, 1, none⟩ (.int .i64 a) (by show _ ≠ w.heap.size; omega)) ⟨w.heap.size, 2, none⟩ (.int .i64 cc) (by show _ ≠ w.heap.size; omega)) ⟨w.heap.size, 3, none⟩ (.int .i64 v) (by show _ ≠ w.heap.size; omega)
              replace ra := set43 (set42 (set41 (set40 (ra) (.int .i64 k)) (.int .i64 a)) (.int .i64 cc)) (.int .i64 v)
              clear hr
              replace hB := ((((hB).setCell (p := ⟨w.heap.size, 0, none⟩) (by show _ ≤ w.heap.size; omega) (.int .i64 k)).setCell (p := ⟨w.heap.size, 1, none⟩) (by show _ ≤ w.heap.size; omega) (.int .i64 a)).setCell (p := ⟨w.heap.size, 2, none⟩) (by show _ ≤ w.heap.size; omega) (.int .i64 cc)).setCell (p := ⟨w.heap.size, 3, none⟩) (by show _ ≤ w.heap.size; omega) (.int .i64 v)
              have s10 : u9.heap.size ≤ ((((u9.setCell ⟨w.heap.size, 0, none⟩ (.int .i64 k)).setCell ⟨w.heap.size, 1, none⟩ (.int .i64 a)).setCell ⟨w.heap.size, 2, none⟩ (.int .i64 cc)).setCell ⟨w.heap.size, 3, none⟩ (.int .i64 v)).heap.size := by simp only [World.size_setCell]; exact Nat.le_refl _
              have mx6_0 : ((((u9.setCell ⟨w.heap.size, 0, none⟩ (.int .i64 k)).setCell ⟨w.heap.size, 1, none⟩ (.int .i64 a)).setCell ⟨w.heap.size, 2, none⟩ (.int .i64 cc)).setCell ⟨w.heap.size, 3, none⟩ (.int .i64 v)).cell? ⟨w4.heap.size, 0, none⟩ = some (.int .i64 k) := cell_of_row _ _ 0 _ _ _ rx
              have mx6_1 : ((((u9.setCell ⟨w.heap.size, 0, none⟩ (.int .i64 k)).setCell ⟨w.heap.size, 1, none⟩ (.int .i64 a)).setCell ⟨w.heap.size, 2, none⟩ (.int .i64 cc)).setCell ⟨w.heap.size, 3, none⟩ (.int .i64 v)).cell? ⟨w4.heap.size, 1, none⟩ = some (.int .i64 a) := cell_of_row _ _ 1 _ _ _ rx
              have mx6_2 : ((((u9.setCell ⟨w.heap.size, 0, none⟩ (.int .i64 k)).setCell ⟨w.heap.size, 1, none⟩ (.int .i64 a)).setCell ⟨w.heap.size, 2, none⟩ (.int .i64 cc)).setCell ⟨w.heap.size, 3, none⟩ (.int .i64 v)).cell? ⟨w4.heap.size, 2, none⟩ = some (.int .i64 cc) := cell_of_row _ _ 2 _ _ _ rx
              have mx6_3 : ((((u9.setCell ⟨w.heap.size, 0, none⟩ (.int .i64 k)).setCell ⟨w.heap.size, 1, none⟩ (.int .i64 a)).setCell ⟨w.heap.size, 2, none⟩ (.int .i64 cc)).setCell ⟨w.heap.size, 3, none⟩ (.int .i64 v)).cell? ⟨w4.heap.size, 3, none⟩ = some (.int .i64 v) := cell_of_row _ _ 3 _ _ _ rx
              go_simp
              refine hK.out _ _ ⟨mx6_0, mx6_1, mx6_2, mx6_3⟩ (fun hHeld => ?_)
              clear z10_0 z10_1 z10_2 z10_3 y10_0 y10_1 y10_2 y10_3 mx5_0 mx5_1 mx5_2 mx5_3
              generalize ((((u9.setCell ⟨w.heap.size, 0, none⟩ (.int .i64 k)).setCell ⟨w.heap.size, 1, none⟩ (.int .i64 a)).setCell ⟨w.heap.size, 2, none⟩ (.int .i64 cc)).setCell ⟨w.heap.size, 3, none⟩ (.int .i64 v)) = u10 at *
              clear hK K
              try simp only [Act.put, List.getElem_toArray, List.getElem_cons_zero, List.getElem_cons_succ, List.setIfInBounds_toArray, List.set_cons_zero, List.set_cons_succ]
              refine wpAnyH_take (i := 11) (v := ?_) rfl (by kernel_rfl) (by kernel_rfl) (by kernel_rfl) (fun _ _ _ h => h) (Or.inl ⟨by rfl, ?_⟩) (by assumption) ?_
              rotate_left
              · (intro wz hSw; (try dsimp only at hSw); go_simp; try with_reducible rfl)
              simp only [Act.put, List.getElem_toArray, List.getElem_cons_zero, List.getElem_cons_succ, List.setIfInBounds_toArray, List.set_cons_zero, List.set_cons_succ]
              refine wpAnyH_done (by kernel_rfl) ?_ _
              refine NoPanic.normal ?_
              have ma1_0 : u10.cell? ⟨w.heap.size, 0, none⟩ = some (.int .i64 k) := cell_of_row _ _ 0 _ _ _ ra
              have ma1_1 : u10.cell? ⟨w.heap.size, 1, none⟩ = some (.int .i64 a) := cell_of_row _ _ 1 _ _ _ ra
              have ma1_2 : u10.cell? ⟨w.heap.size, 2, none⟩ = some (.int .i64 cc) := cell_of_row _ _ 2 _ _ _ ra
              have ma1_3 : u10.cell? ⟨w.heap.size, 3, none⟩ = some (.int .i64 v) := cell_of_row _ _ 3 _ _ _ ra
              go_wp2_with fail
              refine bodyPost_ret (v := .tuple #[.agg #[.int .i64 k, .int .i64 a, .int .i64 cc, .int .i64 v], .int .i64 y]) (by simp [results, Try.results8, go_sem, ma1_0, ma1_1, ma1_2, ma1_3]) rfl ?_
              exact ⟨k, a, cc, v, y, rfl, c4, hy, hB⟩
            exact AllReadyH.nil
          refine AllReadyH.cons rfl (fun K hK => ?_) ?_
          · have z10_0 := frzRow ra 0
            have z10_1 := frzRow ra 1
            have z10_2 := frzRow ra 2
            have z10_3 := frzRow ra 3
            have y10_0 : u9.cell? ⟨w.heap.size, 0, none⟩ = some (.int .i64 0) := cell_of_row _ _ 0 _ _ _ ra
            have y10_1 : u9.cell? ⟨w.heap.size, 1, none⟩ = some (.int .i64 0) := cell_of_row _ _ 1 _ _ _ ra
            have y10_2 : u9.cell? ⟨w.heap.size, 2, none⟩ = some (.int .i64 0) := cell_of_row _ _ 2 _ _ _ ra
            have y10_3 : u9.cell? ⟨w.heap.size, 3, none⟩ = some (.int .i64 0) := cell_of_row _ _ 3 _ _ _ ra
            replace rx := rowSet (rowSet (rowSet (rowSet (rx) ⟨w.heap.size, 0, none⟩ (.int .i64 k) (by show _ ≠ w.heap.size; omega)) ⟨w.heap.size, 1, none⟩ (.int .i64 a) (by show _ ≠ w.heap.size; omega)) ⟨w.heap.size, 2, none⟩ (.int .i64 cc) (by show _ ≠ w.heap.size; omega)) ⟨w.heap.size, 3, none⟩ (.int .i64 v) (by show _ ≠ w.heap.size; omega)
            replace rp := rowSet (rowSet (rowSet (rowSet (rp) ⟨w.heap.size, 0, none⟩ (.int .i64 k) (by show _ ≠ w.heap.size; omega)) ⟨w.heap.size, 1, none⟩ (.int .i64 a) (by show _ ≠ w.heap.size; omega)) ⟨w.heap.size, 2, none⟩ (.int .i64 cc) (by show _ ≠ w.heap.size; omega)) ⟨w.heap.size, 3, none⟩ (.int .i64 v) (by show _ ≠ w.heap.size; omega)
            replace rq := rowSet (rowSet (rowSet (rowSet (rq) ⟨w.heap.size, 0, none⟩ (.int .i64 k) (by show _ ≠ w.heap.size; omega)) ⟨w.heap.size, 1, none⟩ (.int .i64 a) (by show _ ≠ w.heap.size; omega)) ⟨w.heap.size, 2, none⟩ (.int .i64 cc) (by show _ ≠ w.heap.size; omega)) ⟨w.heap.size, 3, none⟩ (.int .i64 v) (by show _ ≠ w.heap.size; omega)
            replace ra := set43 (set42 (set41 (set40 (ra) (.int .i64 k)) (.int .i64 a)) (.int .i64 cc)) (.int .i64 v)
            clear hr
            replace hB := ((((hB).setCell (p := ⟨w.heap.size, 0, none⟩) (by show _ ≤ w.heap.size; omega) (.int .i64 k)).setCell (p := ⟨w.heap.size, 1, none⟩) (by show _ ≤ w.heap.size; omega) (.int .i64 a)).setCell (p := ⟨w.heap.size, 2, none⟩) (by show _ ≤ w.heap.size; omega) (.int .i64 cc)).setCell (p := ⟨w.heap.size, 3, none⟩) (by show _ ≤ w.heap.size; omega) (.int .i64 v)
            have s10 : u9.heap.size ≤ ((((u9.setCell ⟨w.heap.size, 0, none⟩ (.int .i64 k)).setCell ⟨w.heap.size, 1, none⟩ (.int .i64 a)).setCell ⟨w.heap.size, 2, none⟩ (.int .i64 cc)).setCell ⟨w.heap.size, 3, none⟩ (.int .i64 v)).heap.size := by simp only [World.size_setCell]; exact Nat.le_refl _
            have mx6_0 : ((((u9.setCell ⟨w.heap.size, 0, none⟩ (.int .i64 k)).setCell ⟨w.heap.size, 1, none⟩ (.int .i64 a)).setCell ⟨w.heap.size, 2, none⟩ (.int .i64 cc)).setCell ⟨w.heap.size, 3, none⟩ (.int .i64 v)).cell? ⟨w4.heap.size, 0, none⟩ = some (.int .i64 k) := cell_of_row _ _ 0 _ _ _ rx
            have mx6_1 : ((((u9.setCell ⟨w.heap.size, 0, none⟩ (.int .i64 k)).setCell ⟨w.heap.size, 1, none⟩ (.int .i64 a)).setCell ⟨w.heap.size, 2, none⟩ (.int .i64 cc)).setCell ⟨w.heap.size, 3, none⟩ (.int .i64 v)).cell? ⟨w4.heap.size, 1, none⟩ = some (.int .i64 a) := cell_of_row _ _ 1 _ _ _ rx
            have mx6_2 : ((((u9.setCell ⟨w.heap.size, 0, none⟩ (.int .i64 k)).setCell ⟨w.heap.size, 1, none⟩ (.int .i64 a)).setCell ⟨w.heap.size, 2, none⟩ (.int .i64 cc)).setCell ⟨w.heap.size, 3, none⟩ (.int .i64 v)).cell? ⟨w4.heap.size, 2, none⟩ = some (.int .i64 cc) := cell_of_row _ _ 2 _ _ _ rx
            have mx6_3 : ((((u9.setCell ⟨w.heap.size, 0, none⟩ (.int .i64 k)).setCell ⟨w.heap.size, 1, none⟩ (.int .i64 a)).setCell ⟨w.heap.size, 2, none⟩ (.int .i64 cc)).setCell ⟨w.heap.size, 3, none⟩ (.int .i64 v)).cell? ⟨w4.heap.size, 3, none⟩ = some (.int .i64 v) := cell_of_row _ _ 3 _ _ _ rx
            go_simp
            refine hK.out _ _ ⟨mx6_0, mx6_1, mx6_2, mx6_3⟩ (fun hHeld => ?_)
            clear z10_0 z10_1 z10_2 z10_3 y10_0 y10_1 y10_2 y10_3 mx5_0 mx5_1 mx5_2 mx5_3
            generalize ((((u9.setCell ⟨w.heap.size, 0, none⟩ (.int .i64 k)).setCell ⟨w.heap.size, 1, none⟩ (.int .i64 a)).setCell ⟨w.heap.size, 2, none⟩ (.int .i64 cc)).setCell ⟨w.heap.size, 3, none⟩ (.int .i64 v)) = u10 at *
            clear hK K
            try simp only [Act.put, List.getElem_toArray, List.getElem_cons_zero, List.getElem_cons_succ, List.setIfInBounds_toArray, List.set_cons_zero, List.set_cons_succ]
            refine wpAnyH_ready (rs := [9]) (by kernel_rfl) (by simp) ?_
            refine AllReadyH.cons rfl (fun K hK => ?_) ?_
            · obtain ⟨y, hy, hpk⟩ := pickL (fun x => -1 ≤ x ∧ x ≤ 65) [size, (-1), 65] i (by intro z hz; simp only [List.mem_cons, List.not_mem_nil, or_false] at hz; omega) i0 i1
              have hcw := lit_at rp hpk
              clear hpk
              go_simp
              refine hK.out _ _ ⟨mx6_0, mx6_1, mx6_2, mx6_3⟩ (fun hHeld => ?_)
              clear hK K
              try simp only [Act.put, List.getElem_toArray, List.getElem_cons_zero, List.getElem_cons_succ, List.setIfInBounds_toArray, List.set_cons_zero, List.set_cons_succ]
              refine wpAnyH_take (i := 11) (v := ?_) rfl (by kernel_rfl) (by kernel_rfl) (by kernel_rfl) (fun _ _ _ h => h) (Or.inl ⟨by rfl, ?_⟩) (by assumption) ?_
              rotate_left
              · (intro wz hSw; (try dsimp only at hSw); go_simp; try with_reducible rfl)
              simp only [Act.put, List.getElem_toArray, List.getElem_cons_zero, List.getElem_cons_succ, List.setIfInBounds_toArray, List.set_cons_zero, List.set_cons_succ]
              refine wpAnyH_done (by kernel_rfl) ?_ _
              refine NoPanic.normal ?_
              have ma1_0 : u10.cell? ⟨w.heap.size, 0, none⟩ = some (.int .i64 k) := cell_of_row _ _ 0 _ _ _ ra
              have ma1_1 : u10.cell? ⟨w.heap.size, 1, none⟩ = some (.int .i64 a) := cell_of_row _ _ 1 _ _ _ ra
              have ma1_2 : u10.cell? ⟨w.heap.size, 2, none⟩ = some (.int .i64 cc) := cell_of_row _ _ 2 _ _ _ ra
              have ma1_3 : u10.cell? ⟨w.heap.size, 3, none⟩ = some (.int .i64 v) := cell_of_row _ _ 3 _ _ _ ra
              go_wp2_with fail
              refine bodyPost_ret (v := .tuple #[.agg #[.int .i64 k, .int .i64 a, .int .i64 cc, .int .i64 v], .int .i64 y]) (by simp [results, Try.results8, go_sem, ma1_0, ma1_1, ma1_2, ma1_3]) rfl ?_
              exact ⟨k, a, cc, v, y, rfl, c4, hy, hB⟩
            exact AllReadyH.nil
          exact AllReadyH.nil
        refine AllReadyH.cons rfl (fun K hK => ?_) ?_
        · have z10_0 := frzRow ra 0
          have z10_1 := frzRow ra 1
          have z10_2 := frzRow ra 2
          have z10_3 := frzRow ra 3
          have y10_0 : u9.cell? ⟨w.heap.size, 0, none⟩ = some (.int .i64 0) := cell_of_row _ _ 0 _ _ _ ra
          have y10_1 : u9.cell? ⟨w.heap.size, 1, none⟩ = some (.int .i64 0) := cell_of_row _ _ 1 _ _ _ ra
          have y10_2 : u9.cell? ⟨w.heap.size, 2, none⟩ = some (.int .i64 0) := cell_of_row _ _ 2 _ _ _ ra
          have y10_3 : u9.cell? ⟨w.heap.size, 3, none⟩ = some (.int .i64 0) := cell_of_row _ _ 3 _ _ _ ra
          replace rx := rowSet (rowSet (rowSet (rowSet (rx) ⟨w.heap.size, 0, none⟩ (.int .i64 k) (by show _ ≠ w.heap.size; omega)) ⟨w.heap.size, 1, none⟩ (.int .i64 a) (by show _ ≠ w.heap.size; omega)) ⟨w.heap.size, 2, none⟩ (.int .i64 cc) (by show _ ≠ w.heap.size; omega)) ⟨w.heap.size, 3, none⟩ (.int .i64 v) (by show _ ≠ w.heap.size; omega)
          replace rp := rowSet (rowSet (rowSet (rowSet (rp) ⟨w.heap.size, 0, none⟩ (.int .i64 k) (by show _ ≠ w.heap.size; omega)) ⟨w.heap.size, 1, none⟩ (.int .i64 a) (by show _ ≠ w.heap.size; omega)) ⟨w.heap.size, 2, none⟩ (.int .i64 cc) (by show _ ≠ w.heap.size; omega)) ⟨w.heap.size, 3, none⟩ (.int .i64 v) (by show _ ≠ w.heap.size; omega)
          replace rq := rowSet (rowSet (rowSet (rowSet (rq) ⟨w.heap.size, 0, none⟩ (.int .i64 k) (by show _ ≠ w.heap.size; omega)) ⟨w.heap.size, 1, none⟩ (.int .i64 a) (by show _ ≠ w.heap.size; omega)) ⟨w.heap.size, 2, none⟩ (.int .i64 cc) (by show _ ≠ w.heap.size; omega)) ⟨w.heap.size, 3, none⟩ (.int .i64 v) (by show _ ≠ w.heap.size; omega)
          replace ra := set43 (set42 (set41 (set40 (ra) (.int .i64 k)) (.int .i64 a)) (.int .i64 cc)) (.int .i64 v)
          clear hr
          replace hB := ((((hB).setCell (p := ⟨w.heap.size, 0, none⟩) (by show _ ≤ w.heap.size; omega) (.int .i64 k)).setCell (p := ⟨w.heap.size, 1, none⟩) (by show _ ≤ w.heap.size; omega) (.int .i64 a)).setCell (p := ⟨w.heap.size, 2, none⟩) (by show _ ≤ w.heap.size; omega) (.int .i64 cc)).setCell (p := ⟨w.heap.size, 3, none⟩) (by show _ ≤ w.heap.size; omega) (.int .i64 v)
          have s10 : u9.heap.size ≤ ((((u9.setCell ⟨w.heap.size, 0, none⟩ (.int .i64 k)).setCell ⟨w.heap.size, 1, none⟩ (.int .i64 a)).setCell ⟨w.heap.size, 2, none⟩ (.int .i64 cc)).setCell ⟨w.heap.size, 3, none⟩ (.int .i64 v)).heap.size := by simp only [World.size_setCell]; exact Nat.le_refl _
          have mx6_0 : ((((u9.setCell ⟨w.heap.size, 0, none⟩ (.int .i64 k)).setCell ⟨w.heap.size, 1, none⟩ (.int .i64 a)).setCell ⟨w.heap.size, 2, none⟩ (.int .i64 cc)).setCell ⟨w.heap.size, 3, none⟩ (.int .i64 v)).cell? ⟨w4.heap.size, 0, none⟩ = some (.int .i64 k) := cell_of_row _ _ 0 _ _ _ rx
          have mx6_1 : ((((u9.setCell ⟨w.heap.size, 0, none⟩ (.int .i64 k)).setCell ⟨w.heap.size, 1, none⟩ (.int .i64 a)).setCell ⟨w.heap.size, 2, none⟩ (.int .i64 cc)).setCell ⟨w.heap.size, 3, none⟩ (.int .i64 v)).cell? ⟨w4.heap.size, 1, none⟩ = some (.int .i64 a) := cell_of_row _ _ 1 _ _ _ rx
          have mx6_2 : ((((u9.setCell ⟨w.heap.size, 0, none⟩ (.int .i64 k)).setCell ⟨w.heap.size, 1, none⟩ (.int .i64 a)).setCell ⟨w.heap.size, 2, none⟩ (.int .i64 cc)).setCell ⟨w.heap.size, 3, none⟩ (.int .i64 v)).cell? ⟨w4.heap.size, 2, none⟩ = some (.int .i64 cc) := cell_of_row _ _ 2 _ _ _ rx
          have mx6_3 : ((((u9.setCell ⟨w.heap.size, 0, none⟩ (.int .i64 k)).setCell ⟨w.heap.size, 1, none⟩ (.int .i64 a)).setCell ⟨w.heap.size, 2, none⟩ (.int .i64 cc)).setCell ⟨w.heap.size, 3, none⟩ (.int .i64 v)).cell? ⟨w4.heap.size, 3, none⟩ = some (.int .i64 v) := cell_of_row _ _ 3 _ _ _ rx
          go_simp
          refine hK.out _ _ ⟨mx6_0, mx6_1, mx6_2, mx6_3⟩ (fun hHeld => ?_)
          clear z10_0 z10_1 z10_2 z10_3 y10_0 y10_1 y10_2 y10_3 mx5_0 mx5_1 mx5_2 mx5_3
          generalize ((((u9.setCell ⟨w.heap.size, 0, none⟩ (.int .i64 k)).setCell ⟨w.heap.size, 1, none⟩ (.int .i64 a)).setCell ⟨w.heap.size, 2, none⟩ (.int .i64 cc)).setCell ⟨w.heap.size, 3, none⟩ (.int .i64 v)) = u10 at *
          clear hK K
          try simp only [Act.put, List.getElem_toArray, List.getElem_cons_zero, List.getElem_cons_succ, List.setIfInBounds_toArray, List.set_cons_zero, List.set_cons_succ]
          refine wpAnyH_ready (rs := [7]) (by kernel_rfl) (by simp) ?_
          refine AllReadyH.cons rfl (fun K hK => ?_) ?_
          · obtain ⟨i, hi, hpk⟩ := pickL (fun x => 0 ≤ x ∧ x < 3) [0, 0, 0, 0, 0, 1, 2] j (by decide) j0 j1
            obtain ⟨i0, i1⟩ := hi
            have hcv := lit_at rq hpk
            clear hpk
            go_simp
            refine hK.out _ _ ⟨mx6_0, mx6_1, mx6_2, mx6_3⟩ (fun hHeld => ?_)
            clear hK K
            try simp only [Act.put, List.getElem_toArray, List.getElem_cons_zero, List.getElem_cons_succ, List.setIfInBounds_toArray, List.set_cons_zero, List.set_cons_succ]
            refine wpAnyH_take (i := 8) (v := ?_) rfl (by kernel_rfl) (by kernel_rfl) (by kernel_rfl) (fun _ _ _ h => h) (Or.inl ⟨by rfl, ?_⟩) (by assumption) ?_
            rotate_left
            · (intro wz hSw; (try dsimp only at hSw); go_simp; try with_reducible rfl)
            simp only [Act.put, List.getElem_toArray, List.getElem_cons_zero, List.getElem_cons_succ, List.setIfInBounds_toArray, List.set_cons_zero, List.set_cons_succ]
            refine wpAnyH_ready (rs := [9]) (by kernel_rfl) (by simp) ?_
            refine AllReadyH.cons rfl (fun K hK => ?_) ?_
            · obtain ⟨y, hy, hpk⟩ := pickL (fun x => -1 ≤ x ∧ x ≤ 65) [size, (-1), 65] i (by intro z hz; simp only [List.mem_cons, List.not_mem_nil, or_false] at hz; omega) i0 i1
              have hcw := lit_at rp hpk
              clear hpk
              go_simp
              refine hK.out _ _ ⟨mx6_0, mx6_1, mx6_2, mx6_3⟩ (fun hHeld => ?_)
              clear hK K
              try simp only [Act.put, List.getElem_toArray, List.getElem_cons_zero, List.getElem_cons_succ, List.setIfInBounds_toArray, List.set_cons_zero, List.set_cons_succ]
              refine wpAnyH_take (i := 11) (v := ?_) rfl (by kernel_rfl) (by kernel_rfl) (by kernel_rfl) (fun _ _ _ h => h) (Or.inl ⟨by rfl, ?_⟩) (by assumption) ?_
              rotate_left
              · (intro wz hSw; (try dsimp only at hSw); go_simp; try with_reducible rfl)
              simp only [Act.put, List.getElem_toArray, List.getElem_cons_zero, List.getElem_cons_succ, List.setIfInBounds_toArray, List.set_cons_zero, List.set_cons_succ]
              refine wpAnyH_done (by kernel_rfl) ?_ _
              refine NoPanic.normal ?_
              have ma1_0 : u10.cell? ⟨w.heap.size, 0, none⟩ = some (.int .i64 k) := cell_of_row _ _ 0 _ _ _ ra
              have ma1_1 : u10.cell? ⟨w.heap.size, 1, none⟩ = some (.int .i64 a) := cell_of_row _ _ 1 _ _ _ ra
              have ma1_2 : u10.cell? ⟨w.heap.size, 2, none⟩ = some (.int .i64 cc) := cell_of_row _ _ 2 _ _ _ ra
              have ma1_3 : u10.cell? ⟨w.heap.size, 3, none⟩ = some (.int .i64 v) := cell_of_row _ _ 3 _ _ _ ra
              go_wp2_with fail
              refine bodyPost_ret (v := .tuple #[.agg #[.int .i64 k, .int .i64 a, .int .i64 cc, .int .i64 v], .int .i64 y]) (by simp [results, Try.results8, go_sem, ma1_0, ma1_1, ma1_2, ma1_3]) rfl ?_
              exact ⟨k, a, cc, v, y, rfl, c4, hy, hB⟩
            exact AllReadyH.nil
          exact AllReadyH.nil
        exact AllReadyH.nil
      refine AllReadyH.cons rfl (fun K hK => ?_) ?_
      · have z9_0 := frzRow ra 0
        have z9_1 := frzRow ra 1
        have z9_2 := frzRow ra 2
        have z9_3 := frzRow ra 3
        have y9_0 : w8.cell? ⟨w.heap.size, 0, none⟩ = some (.int .i64 0) := cell_of_row _ _ 0 _ _ _ ra
        have y9_1 : w8.cell? ⟨w.heap.size, 1, none⟩ = some (.int .i64 0) := cell_of_row _ _ 1 _ _ _ ra
        have y9_2 : w8.cell? ⟨w.heap.size, 2, none⟩ = some (.int .i64 0) := cell_of_row _ _ 2 _ _ _ ra
        have y9_3 : w8.cell? ⟨w.heap.size, 3, none⟩ = some (.int .i64 0) := cell_of_row _ _ 3 _ _ _ ra
        replace rx := rowSet (rowSet (rowSet (rowSet (rx) ⟨w.heap.size, 0, none⟩ (.int .i64 k) (by show _ ≠ w.heap.size; omega)) ⟨w.heap.size, 1, none⟩ (.int .i64 a) (by show _ ≠ w.heap.size; omega)) ⟨w.heap.size, 2, none⟩ (.int .i64 cc) (by show _ ≠ w.heap.size; omega)) ⟨w.heap.size, 3, none⟩ (.int .i64 v) (by show _ ≠ w.heap.size; omega)
        replace rp := rowSet (rowSet (rowSet (rowSet (rp) ⟨w.heap.size, 0, none⟩ (.int .i64 k) (by show _ ≠ w.heap.size; omega)) ⟨w.heap.size, 1, none⟩ (.int .i64 a) (by show _ ≠ w.heap.size; omega)) ⟨w.heap.size, 2, none⟩ (.int .i64 cc) (by show _ ≠ w.heap.size; omega)) ⟨w.heap.size, 3, none⟩ (.int .i64 v) (by show _ ≠ w.heap.size; omega)
        replace ra := set43 (set42 (set41 (set40 (ra) (.int .i64 k)) (.int .i64 a)) (.int .i64 cc)) (.int .i64 v)
        clear hr
        replace hB := ((((hB).setCell (p := ⟨w.heap.size, 0, none⟩) (by show _ ≤ w.heap.size; omega) (.int .i64 k)).setCell (p := ⟨w.heap.size, 1, none⟩) (by show _ ≤ w.heap.size; omega) (.int .i64 a)).setCell (p := ⟨w.heap.size, 2, none⟩) (by show _ ≤ w.heap.size; omega) (.int .i64 cc)).setCell (p := ⟨w.heap.size, 3, none⟩) (by show _ ≤ w.heap.size; omega) (.int .i64 v)
        have s9 : w8.heap.size ≤ ((((w8.setCell ⟨w.heap.size, 0, none⟩ (.int .i64 k)).setCell ⟨w.heap.size, 1, none⟩ (.int .i64 a)).setCell ⟨w.heap.size, 2, none⟩ (.int .i64 cc)).setCell ⟨w.heap.size, 3, none⟩ (.int .i64 v)).heap.size := by simp only [World.size_setCell]; exact Nat.le_refl _
        have mx5_0 : ((((w8.setCell ⟨w.heap.size, 0, none⟩ (.int .i64 k)).setCell ⟨w.heap.size, 1, none⟩ (.int .i64 a)).setCell ⟨w.heap.size, 2, none⟩ (.int .i64 cc)).setCell ⟨w.heap.size, 3, none⟩ (.int .i64 v)).cell? ⟨w4.heap.size, 0, none⟩ = some (.int .i64 k) := cell_of_row _ _ 0 _ _ _ rx
        have mx5_1 : ((((w8.setCell ⟨w.heap.size, 0, none⟩ (.int .i64 k)).setCell ⟨w.heap.size, 1, none⟩ (.int .i64 a)).setCell ⟨w.heap.size, 2, none⟩ (.int .i64 cc)).setCell ⟨w.heap.size, 3, none⟩ (.int .i64 v)).cell? ⟨w4.heap.size, 1, none⟩ = some (.int .i64 a) := cell_of_row _ _ 1 _ _ _ rx
        have mx5_2 : ((((w8.setCell ⟨w.heap.size, 0, none⟩ (.int .i64 k)).setCell ⟨w.heap.size, 1, none⟩ (.int .i64 a)).setCell ⟨w.heap.size, 2, none⟩ (.int .i64 cc)).setCell ⟨w.heap.size, 3, none⟩ (.int .i64 v)).cell? ⟨w4.heap.size, 2, none⟩ = some (.int .i64 cc) := cell_of_row _ _ 2 _ _ _ rx
        have mx5_3 : ((((w8.setCell ⟨w.heap.size, 0, none⟩ (.int .i64 k)).setCell ⟨w.heap.size, 1, none⟩ (.int .i64 a)).setCell ⟨w.heap.size, 2, none⟩ (.int .i64 cc)).setCell ⟨w.heap.size, 3, none⟩ (.int .i64 v)).cell? ⟨w4.heap.size, 3, none⟩ = some (.int .i64 v) := cell_of_row _ _ 3 _ _ _ rx
        go_simp
        refine hK.out _ _ ⟨mx5_0, mx5_1, mx5_2, mx5_3⟩ (fun hHeld => ?_)
        clear z9_0 z9_1 z9_2 z9_3 y9_0 y9_1 y9_2 y9_3 mx4_0 mx4_1 mx4_2 mx4_3
        generalize ((((w8.setCell ⟨w.heap.size, 0, none⟩ (.int .i64 k)).setCell ⟨w.heap.size, 1, none⟩ (.int .i64 a)).setCell ⟨w.heap.size, 2, none⟩ (.int .i64 cc)).setCell ⟨w.heap.size, 3, none⟩ (.int .i64 v)) = u9 at *
        clear hK K
        try simp only [Act.put, List.getElem_toArray, List.getElem_cons_zero, List.getElem_cons_succ, List.setIfInBounds_toArray, List.set_cons_zero, List.set_cons_succ]
        refine wpAnyH_ready (rs := [3]) (by kernel_rfl) (by simp) ?_
        refine AllReadyH.cons rfl (fun K hK => ?_) ?_
        · have hn10 := below_new u9 (.cells #[.int .i64 0, .int .i64 0, .int .i64 0, .int .i64 0, .int .i64 0, .int .i64 1, .int .i64 2] 3)
          replace ra := rowKeep ra hn10
          replace rx := rowKeep rx hn10
          replace rp := rowKeep rp hn10
          replace hB := below_later hB hn10 (by omega)
          have mx6_0 : (u9.alloc (.cells #[.int .i64 0, .int .i64 0, .int .i64 0, .int .i64 0, .int .i64 0, .int .i64 1, .int .i64 2] 3)).cell? ⟨w4.heap.size, 0, none⟩ = some (.int .i64 k) := cell_of_row _ _ 0 _ _ _ rx
          have mx6_1 : (u9.alloc (.cells #[.int .i64 0, .int .i64 0, .int .i64 0, .int .i64 0, .int .i64 0, .int .i64 1, .int .i64 2] 3)).cell? ⟨w4.heap.size, 1, none⟩ = some (.int .i64 a) := cell_of_row _ _ 1 _ _ _ rx
          have mx6_2 : (u9.alloc (.cells #[.int .i64 0, .int .i64 0, .int .i64 0, .int .i64 0, .int .i64 0, .int .i64 1, .int .i64 2] 3)).cell? ⟨w4.heap.size, 2, none⟩ = some (.int .i64 cc) := cell_of_row _ _ 2 _ _ _ rx
          have mx6_3 : (u9.alloc (.cells #[.int .i64 0, .int .i64 0, .int .i64 0, .int .i64 0, .int .i64 0, .int .i64 1, .int .i64 2] 3)).cell? ⟨w4.heap.size, 3, none⟩ = some (.int .i64 v) := cell_of_row _ _ 3 _ _ _ rx
          clear hn10
          have s10 : u9.heap.size < (u9.alloc (.cells #[.int .i64 0, .int .i64 0, .int .i64 0, .int .i64 0, .int .i64 0, .int .i64 1, .int .i64 2] 3)).heap.size := Nat.lt_of_lt_of_eq (Nat.lt_succ_self _) (World.size_alloc _ _).symm
          have rq : (u9.alloc (.cells #[.int .i64 0, .int .i64 0, .int .i64 0, .int .i64 0, .int .i64 0, .int .i64 1, .int .i64 2] 3)).heap[u9.heap.size]? = some (.cells #[.int .i64 0, .int .i64 0, .int .i64 0, .int .i64 0, .int .i64 0, .int .i64 1, .int .i64 2] 3 (0, 0)) := by have q := heap_alloc_new u9 (.cells #[.int .i64 0, .int .i64 0, .int .i64 0, .int .i64 0, .int .i64 0, .int .i64 1, .int .i64 2] 3); (try simp only [World.size_alloc, World.size_setCell] at q); exact q
          go_simp
          refine hK.out _ _ ⟨mx6_0, mx6_1, mx6_2, mx6_3⟩ (fun hHeld => ?_)
          clear mx5_0 mx5_1 mx5_2 mx5_3
          generalize (u9.alloc (.cells #[.int .i64 0, .int .i64 0, .int .i64 0, .int .i64 0, .int .i64 0, .int .i64 1, .int .i64 2] 3)) = u10 at *
          clear hK K
          try simp only [Act.put, List.getElem_toArray, List.getElem_cons_zero, List.getElem_cons_succ, List.setIfInBounds_toArray, List.set_cons_zero, List.set_cons_succ]
          refine wpAnyH_take (i := 6) (v := ?_) rfl (by kernel_rfl) (by kernel_rfl) (by kernel_rfl) (fun _ _ _ h => h) (Or.inl ⟨by rfl, ?_⟩) (by assumption) ?_
          rotate_left
          · (intro wz hSw; (try dsimp only at hSw); go_simp; try with_reducible rfl)
          simp only [Act.put, List.getElem_toArray, List.getElem_cons_zero, List.getElem_cons_succ, List.setIfInBounds_toArray, List.set_cons_zero, List.set_cons_succ]
          refine wpAnyH_ready (rs := [7]) (by kernel_rfl) (by simp) ?_
          refine AllReadyH.cons rfl (fun K hK => ?_) ?_
          · obtain ⟨i, hi, hpk⟩ := pickL (fun x => 0 ≤ x ∧ x < 3) [0, 0, 0, 0, 0, 1, 2] j (by decide) j0 j1
            obtain ⟨i0, i1⟩ := hi
            have hcv := lit_at rq hpk
            clear hpk
            go_simp
            refine hK.out _ _ ⟨mx6_0, mx6_1, mx6_2, mx6_3⟩ (fun hHeld => ?_)
            clear hK K
            try simp only [Act.put, List.getElem_toArray, List.getElem_cons_zero, List.getElem_cons_succ, List.setIfInBounds_toArray, List.set_cons_zero, List.set_cons_succ]
            refine wpAnyH_take (i := 8) (v := ?_) rfl (by kernel_rfl) (by kernel_rfl) (by kernel_rfl) (fun _ _ _ h => h) (Or.inl ⟨by rfl, ?_⟩) (by assumption) ?_
            rotate_left
            · (intro wz hSw; (try dsimp only at hSw); go_simp; try with_reducible rfl)
            simp only [Act.put, List.getElem_toArray, List.getElem_cons_zero, List.getElem_cons_succ, List.setIfInBounds_toArray, List.set_cons_zero, List.set_cons_succ]
            refine wpAnyH_ready (rs := [9]) (by kernel_rfl) (by simp) ?_
            refine AllReadyH.cons rfl (fun K hK => ?_) ?_
            · obtain ⟨y, hy, hpk⟩ := pickL (fun x => -1 ≤ x ∧ x ≤ 65) [size, (-1), 65] i (by intro z hz; simp only [List.mem_cons, List.not_mem_nil, or_false] at hz; omega) i0 i1
              have hcw := lit_at rp hpk
              clear hpk
              go_simp
              refine hK.out _ _ ⟨mx6_0, mx6_1, mx6_2, mx6_3⟩ (fun hHeld => ?_)
              clear hK K
              try simp only [Act.put, List.getElem_toArray, List.getElem_cons_zero, List.getElem_cons_succ, List.setIfInBounds_toArray, List.set_cons_zero, List.set_cons_succ]
              refine wpAnyH_take (i := 11) (v := ?_) rfl (by kernel_rfl) (by kernel_rfl) (by kernel_rfl) (fun _ _ _ h => h) (Or.inl ⟨by rfl, ?_⟩) (by assumption) ?_
              rotate_left
              · (intro wz hSw; (try dsimp only at hSw); go_simp; try with_reducible rfl)
              simp only [Act.put, List.getElem_toArray, List.getElem_cons_zero, List.getElem_cons_succ, List.setIfInBounds_toArray, List.set_cons_zero, List.set_cons_succ]
              refine wpAnyH_done (by kernel_rfl) ?_ _
              refine NoPanic.normal ?_
              have ma1_0 : u10.cell? ⟨w.heap.size, 0, none⟩ = some (.int .i64 k) := cell_of_row _ _ 0 _ _ _ ra
              have ma1_1 : u10.cell? ⟨w.heap.size, 1, none⟩ = some (.int .i64 a) := cell_of_row _ _ 1 _ _ _ ra
              have ma1_2 : u10.cell? ⟨w.heap.size, 2, none⟩ = some (.int .i64 cc) := cell_of_row _ _ 2 _ _ _ ra
              have ma1_3 : u10.cell? ⟨w.heap.size, 3, none⟩ = some (.int .i64 v) := cell_of_row _ _ 3 _ _ _ ra
              go_wp2_with fail
              refine bodyPost_ret (v := .tuple #[.agg #[.int .i64 k, .int .i64 a, .int .i64 cc, .int .i64 v], .int .i64 y]) (by simp [results, Try.results8, go_sem, ma1_0, ma1_1, ma1_2, ma1_3]) rfl ?_
              exact ⟨k, a, cc, v, y, rfl, c4, hy, hB⟩
            exact AllReadyH.nil
          exact AllReadyH.nil
        exact AllReadyH.nil
      exact AllReadyH.nil
    exact AllReadyH.nil
  refine AllReadyH.cons rfl (fun K hK => ?_) ?_
  · have hn7 := below_new u6 (.cells #[.int .i64 0, .int .i64 0, .int .i64 0, .int .i64 0, .int .i64 0, .int .i64 1, .int .i64 2] 3)
    replace ra := rowKeep ra hn7
    replace rx := rowKeep rx hn7
    replace hr := hr.below hn7
    replace hB := below_later hB hn7 (by omega)
    have mx3_0 : (u6.alloc (.cells #[.int .i64 0, .int .i64 0, .int .i64 0, .int .i64 0, .int .i64 0, .int .i64 1, .int .i64 2] 3)).cell? ⟨w4.heap.size, 0, none⟩ = some (.int .i64 k) := cell_of_row _ _ 0 _ _ _ rx
    have mx3_1 : (u6.alloc (.cells #[.int .i64 0, .int .i64 0, .int .i64 0, .int .i64 0, .int .i64 0, .int .i64 1, .int .i64 2] 3)).cell? ⟨w4.heap.size, 1, none⟩ = some (.int .i64 a) := cell_of_row _ _ 1 _ _ _ rx
    have mx3_2 : (u6.alloc (.cells #[.int .i64 0, .int .i64 0, .int .i64 0, .int .i64 0, .int .i64 0, .int .i64 1, .int .i64 2] 3)).cell? ⟨w4.heap.size, 2, none⟩ = some (.int .i64 cc) := cell_of_row _ _ 2 _ _ _ rx
    have mx3_3 : (u6.alloc (.cells #[.int .i64 0, .int .i64 0, .int .i64 0, .int .i64 0, .int .i64 0, .int .i64 1, .int .i64 2] 3)).cell? ⟨w4.heap.size, 3, none⟩ = some (.int .i64 v) := cell_of_row _ _ 3 _ _ _ rx
    clear hn7
    have s7 : u6.heap.size < (u6.alloc (.cells #[.int .i64 0, .int .i64 0, .int .i64 0, .int .i64 0, .int .i64 0, .int .i64 1, .int .i64 2] 3)).heap.size := Nat.lt_of_lt_of_eq (Nat.lt_succ_self _) (World.size_alloc _ _).symm
    have rq : (u6.alloc (.cells #[.int .i64 0, .int .i64 0, .int .i64 0, .int .i64 0, .int .i64 0, .int .i64 1, .int .i64 2] 3)).heap[u6.heap.size]? = some (.cells #[.int .i64 0, .int .i64 0, .int .i64 0, .int .i64 0, .int .i64 0, .int .i64 1, .int .i64 2] 3 (0, 0)) := by have q := heap_alloc_new u6 (.cells #[.int .i64 0, .int .i64 0, .int .i64 0, .int .i64 0, .int .i64 0, .int .i64 1, .int .i64 2] 3); (try simp only [World.size_alloc, World.size_setCell] at q); exact q
    go_simp
    refine hK.out _ _ ⟨mx3_0, mx3_1, mx3_2, mx3_3⟩ (fun hHeld => ?_)
    clear mx2_0 mx2_1 mx2_2 mx2_3
    generalize (u6.alloc (.cells #[.int .i64 0, .int .i64 0, .int .i64 0, .int .i64 0, .int .i64 0, .int .i64 1, .int .i64 2] 3)) = u7 at *
    clear hK K
    try simp only [Act.put, List.getElem_toArray, List.getElem_cons_zero, List.getElem_cons_succ, List.setIfInBounds_toArray, List.set_cons_zero, List.set_cons_succ]
    refine wpAnyH_ready (rs := [2, 5]) (by kernel_rfl) (by simp) ?_
    refine AllReadyH.cons rfl (fun K hK => ?_) ?_
    · have hn8 := below_new u7 (.cells #[.int .i64 size, .int .i64 (-1), .int .i64 65] 3)
      replace ra := rowKeep ra hn8
      replace rx := rowKeep rx hn8
      replace rq := rowKeep rq hn8
      replace hr := hr.below hn8
      replace hB := below_later hB hn8 (by omega)
      have mx4_0 : (u7.alloc (.cells #[.int .i64 size, .int .i64 (-1), .int .i64 65] 3)).cell? ⟨w4.heap.size, 0, none⟩ = some (.int .i64 k) := cell_of_row _ _ 0 _ _ _ rx
      have mx4_1 : (u7.alloc (.cells #[.int .i64 size, .int .i64 (-1), .int .i64 65] 3)).cell? ⟨w4.heap.size, 1, none⟩ = some (.int .i64 a) := cell_of_row _ _ 1 _ _ _ rx
      have mx4_2 : (u7.alloc (.cells #[.int .i64 size, .int .i64 (-1), .int .i64 65] 3)).cell? ⟨w4.heap.size, 2, none⟩ = some (.int .i64 cc) := cell_of_row _ _ 2 _ _ _ rx
      have mx4_3 : (u7.alloc (.cells #[.int .i64 size, .int .i64 (-1), .int .i64 65] 3)).cell? ⟨w4.heap.size, 3, none⟩ = some (.int .i64 v) := cell_of_row _ _ 3 _ _ _ rx
      clear hn8
      have s8 : u7.heap.size < (u7.alloc (.cells #[.int .i64 size, .int .i64 (-1), .int .i64 65] 3)).heap.size := Nat.lt_of_lt_of_eq (Nat.lt_succ_self _) (World.size_alloc _ _).symm
      have rp : (u7.alloc (.cells #[.int .i64 size, .int .i64 (-1), .int .i64 65] 3)).heap[u7.heap.size]? = some (.cells #[.int .i64 size, .int .i64 (-1), .int .i64 65] 3 (0, 0)) := by have q := heap_alloc_new u7 (.cells #[.int .i64 size, .int .i64 (-1), .int .i64 65] 3); (try simp only [World.size_alloc, World.size_setCell] at q); exact q
      go_simp
      refine hK.out _ _ ⟨mx4_0, mx4_1, mx4_2, mx4_3⟩ (fun hHeld => ?_)
      clear mx3_0 mx3_1 mx3_2 mx3_3
      generalize (u7.alloc (.cells #[.int .i64 size, .int .i64 (-1), .int .i64 65] 3)) = u8 at *
      clear hK K
      try simp only [Act.put, List.getElem_toArray, List.getElem_cons_zero, List.getElem_cons_succ, List.setIfInBounds_toArray, List.set_cons_zero, List.set_cons_succ]
      refine wpAnyH_ready (rs := [5]) (by kernel_rfl) (by simp) ?_
      refine AllReadyH.cons rfl (fun K hK => ?_) ?_
      · go_simp
        refine (pick_any (u1.heap.size) (p4) (7) _ hr (by omega)).mono ?_
        rintro e w9 ⟨j, rfl, h9, q9, f9, e9⟩
        have s9 := f9.size
        clear hr
        have hr := q9
        clear q9
        clear mx4_0 mx4_1 mx4_2 mx4_3
        replace ra := rowFr ra f9 (by omega)
        replace rx := rowFr rx f9 (by omega)
        replace rq := rowFr rq f9 (by omega)
        replace rp := rowFr rp f9 (by omega)
        replace hB := f9.below hB (by omega) (by omega)
        have mx5_0 : w9.cell? ⟨w4.heap.size, 0, none⟩ = some (.int .i64 k) := cell_of_row _ _ 0 _ _ _ rx
        have mx5_1 : w9.cell? ⟨w4.heap.size, 1, none⟩ = some (.int .i64 a) := cell_of_row _ _ 1 _ _ _ rx
        have mx5_2 : w9.cell? ⟨w4.heap.size, 2, none⟩ = some (.int .i64 cc) := cell_of_row _ _ 2 _ _ _ rx
        have mx5_3 : w9.cell? ⟨w4.heap.size, 3, none⟩ = some (.int .i64 v) := cell_of_row _ _ 3 _ _ _ rx
        clear f9
        obtain ⟨j0, j1⟩ : 0 ≤ j ∧ j < 7 := by omega
        clear h9 e9
        refine hK.out _ _ ⟨mx5_0, mx5_1, mx5_2, mx5_3⟩ (fun hHeld => ?_)
        clear hK K
        try simp only [Act.put, List.getElem_toArray, List.getElem_cons_zero, List.getElem_cons_succ, List.setIfInBounds_toArray, List.set_cons_zero, List.set_cons_succ]
        refine wpAnyH_take (i := 6) (v := ?_) rfl (by kernel_rfl) (by kernel_rfl) (by kernel_rfl) (fun _ _ _ h => h) (Or.inl ⟨by rfl, ?_⟩) (by assumption) ?_
        rotate_left
        · (intro wz hSw; (try dsimp only at hSw); go_simp; try with_reducible rfl)
        simp only [Act.put, List.getElem_toArray, List.getElem_cons_zero, List.getElem_cons_succ, List.setIfInBounds_toArray, List.set_cons_zero, List.set_cons_succ]
        refine wpAnyH_ready (rs := [7, 10]) (by kernel_rfl) (by simp) ?_
        refine AllReadyH.cons rfl (fun K hK => ?_) ?_
        · obtain ⟨i, hi, hpk⟩ := pickL (fun x => 0 ≤ x ∧ x < 3) [0, 0, 0, 0, 0, 1, 2] j (by decide) j0 j1
          obtain ⟨i0, i1⟩ := hi
          have hcv := lit_at rq hpk
          clear hpk
          go_simp
          refine hK.out _ _ ⟨mx5_0, mx5_1, mx5_2, mx5_3⟩ (fun hHeld => ?_)
          clear hK K
          try simp only [Act.put, List.getElem_toArray, List.getElem_cons_zero, List.getElem_cons_succ, List.setIfInBounds_toArray, List.set_cons_zero, List.set_cons_succ]
          refine wpAnyH_take (i := 8) (v := ?_) rfl (by kernel_rfl) (by kernel_rfl) (by kernel_rfl) (fun _ _ _ h => h) (Or.inl ⟨by rfl, ?_⟩) (by assumption) ?_
          rotate_left
          · (intro wz hSw; (try dsimp only at hSw); go_simp; try with_reducible rfl)
          simp only [Act.put, List.getElem_toArray, List.getElem_cons_zero, List.getElem_cons_succ, List.setIfInBounds_toArray, List.set_cons_zero, List.set_cons_succ]
          refine wpAnyH_ready (rs := [9, 10]) (by kernel_rfl) (by simp) ?_
          refine AllReadyH.cons rfl (fun K hK => ?_) ?_
          · obtain ⟨y, hy, hpk⟩ := pickL (fun x => -1 ≤ x ∧ x ≤ 65) [size, (-1), 65] i (by intro z hz; simp only [List.mem_cons, List.not_mem_nil, or_false] at hz; omega) i0 i1
            have hcw := lit_at rp hpk
            clear hpk
            go_simp
            refine hK.out _ _ ⟨mx5_0, mx5_1, mx5_2, mx5_3⟩ (fun hHeld => ?_)
            clear hK K
            try simp only [Act.put, List.getElem_toArray, List.getElem_cons_zero, List.getElem_cons_succ, List.setIfInBounds_toArray, List.set_cons_zero, List.set_cons_succ]
            refine wpAnyH_ready (rs := [10]) (by kernel_rfl) (by simp) ?_
            refine AllReadyH.cons rfl (fun K hK => ?_) ?_
            · have z10_0 := frzRow ra 0
              have z10_1 := frzRow ra 1
              have z10_2 := frzRow ra 2
              have z10_3 := frzRow ra 3
              have y10_0 : w9.cell? ⟨w.heap.size, 0, none⟩ = some (.int .i64 0) := cell_of_row _ _ 0 _ _ _ ra
              have y10_1 : w9.cell? ⟨w.heap.size, 1, none⟩ = some (.int .i64 0) := cell_of_row _ _ 1 _ _ _ ra
              have y10_2 : w9.cell? ⟨w.heap.size, 2, none⟩ = some (.int .i64 0) := cell_of_row _ _ 2 _ _ _ ra
              have y10_3 : w9.cell? ⟨w.heap.size, 3, none⟩ = some (.int .i64 0) := cell_of_row _ _ 3 _ _ _ ra
              replace rx := rowSet (rowSet (rowSet (rowSet (rx) ⟨w.heap.size, 0, none⟩ (.int .i64 k) (by show _ ≠ w.heap.size; omega)) ⟨w.heap.size, 1, none⟩ (.int .i64 a) (by show _ ≠ w.heap.size; omega)) ⟨w.heap.size, 2, none⟩ (.int .i64 cc) (by show _ ≠ w.heap.size; omega)) ⟨w.heap.size, 3, none⟩ (.int .i64 v) (by show _ ≠ w.heap.size; omega)
              replace rq := rowSet (rowSet (rowSet (rowSet (rq) ⟨w.heap.size, 0, none⟩ (.int .i64 k) (by show _ ≠ w.heap.size; omega)) ⟨w.heap.size, 1, none⟩ (.int .i64 a) (by show _ ≠ w.heap.size; omega)) ⟨w.heap.size, 2, none⟩ (.int .i64 cc) (by show _ ≠ w.heap.size; omega)) ⟨w.heap.size, 3, none⟩ (.int .i64 v) (by show _ ≠ w.heap.size; omega)
              replace rp := rowSet (rowSet (rowSet (rowSet (rp) ⟨w.heap.size, 0, none⟩ (.int .i64 k) (by show _ ≠ w.heap.size; omega)) ⟨w.heap.size, 1, none⟩ (.int .i64 a) (by show _ ≠ w.heap.size; omega)) ⟨w.heap.size, 2, none⟩ (.int .i64 cc) (by show _ ≠ w.heap.size; omega)) ⟨w.heap.size, 3, none⟩ (.int .i64 v) (by show _ ≠ w.heap.size; omega)
              replace ra := set43 (set42 (set41 (set40 (ra) (.int .i64 k)) (.int .i64 a)) (.int .i64 cc)) (.int .i64 v)
              clear hr
              replace hB := ((((hB).setCell (p := ⟨w.heap.size, 0, none⟩) (by show _ ≤ w.heap.size; omega) (.int .i64 k)).setCell (p := ⟨w.heap.size, 1, none⟩) (by show _ ≤ w.heap.size; omega) (.int .i64 a)).setCell (p := ⟨w.heap.size, 2, none⟩) (by show _ ≤ w.heap.size; omega) (.int .i64 cc)).setCell (p := ⟨w.heap.size, 3, none⟩) (by show _ ≤ w.heap.size; omega) (.int .i64 v)
              have s10 : w9.heap.size ≤ ((((w9.setCell ⟨w.heap.size, 0, none⟩ (.int .i64 k)).setCell ⟨w.heap.size, 1, none⟩ (.int .i64 a)).setCell ⟨w.heap.size, 2, none⟩ (.int .i64 cc)).setCell ⟨w.heap.size, 3, none⟩ (.int .i64 v)).heap.size := by simp only [World.size_setCell]; exact Nat.le_refl _
              have mx6_0 : ((((w9.setCell ⟨w.heap.size, 0, none⟩ (.int .i64 k)).setCell ⟨w.heap.size, 1, none⟩ (.int .i64 a)).setCell ⟨w.heap.size, 2, none⟩ (.int .i64 cc)).setCell ⟨w.heap.size, 3, none⟩ (.int .i64 v)).cell? ⟨w4.heap.size, 0, none⟩ = some (.int .i64 k) := cell_of_row _ _ 0 _ _ _ rx
              have mx6_1 : ((((w9.setCell ⟨w.heap.size, 0, none⟩ (.int .i64 k)).setCell ⟨w.heap.size, 1, none⟩ (.int .i64 a)).setCell ⟨w.heap.size, 2, none⟩ (.int .i64 cc)).setCell ⟨w.heap.size, 3, none⟩ (.int .i64 v)).cell? ⟨w4.heap.size, 1, none⟩ = some (.int .i64 a) := cell_of_row _ _ 1 _ _ _ rx
              have mx6_2 : ((((w9.setCell ⟨w.heap.size, 0, none⟩ (.int .i64 k)).setCell ⟨w.heap.size, 1, none⟩ (.int .i64 a)).setCell ⟨w.heap.size, 2, none⟩ (.int .i64 cc)).setCell ⟨w.heap.size, 3, none⟩ (.int .i64 v)).cell? ⟨w4.heap.size, 2, none⟩ = some (.int .i64 cc) := cell_of_row _ _ 2 _ _ _ rx
              have mx6_3 : ((((w9.setCell ⟨w.heap.size, 0, none⟩ (.int .i64 k)).setCell ⟨w.heap.size, 1, none⟩ (.int .i64 a)).setCell ⟨w.heap.size, 2, none⟩ (.int .i64 cc)).setCell ⟨w.heap.size, 3, none⟩ (.int .i64 v)).cell? ⟨w4.heap.size, 3, none⟩ = some (.int .i64 v) := cell_of_row _ _ 3 _ _ _ rx
              go_simp
              refine hK.out _ _ ⟨mx6_0, mx6_1, mx6_2, mx6_3⟩ (fun hHeld => ?_)
              clear z10_0 z10_1 z10_2 z10_3 y10_0 y10_1 y10_2 y10_3 mx5_0 mx5_1 mx5_2 mx5_3
              generalize ((((w9.setCell ⟨w.heap.size, 0, none⟩ (.int .i64 k)).setCell ⟨w.heap.size, 1, none⟩ (.int .i64 a)).setCell ⟨w.heap.size, 2, none⟩ (.int .i64 cc)).setCell ⟨w.heap.size, 3, none⟩ (.int .i64 v)) = u10 at *
              clear hK K
              try simp only [Act.put, List.getElem_toArray, List.getElem_cons_zero, List.getElem_cons_succ, List.setIfInBounds_toArray, List.set_cons_zero, List.set_cons_succ]
              refine wpAnyH_take (i := 11) (v := ?_) rfl (by kernel_rfl) (by kernel_rfl) (by kernel_rfl) (fun _ _ _ h => h) (Or.inl ⟨by rfl, ?_⟩) (by assumption) ?_
              rotate_left
              · (intro wz hSw; (try dsimp only at hSw); go_simp; try with_reducible rfl)
              simp only [Act.put, List.getElem_toArray, List.getElem_cons_zero, List.getElem_cons_succ, List.setIfInBounds_toArray, List.set_cons_zero, List.set_cons_succ]
              refine wpAnyH_done (by kernel_rfl) ?_ _
              refine NoPanic.normal ?_
              have ma1_0 : u10.cell? ⟨w.heap.size, 0, none⟩ = some (.int .i64 k) := cell_of_row _ _ 0 _ _ _ ra
              have ma1_1 : u10.cell? ⟨w.heap.size, 1, none⟩ = some (.int .i64 a) := cell_of_row _ _ 1 _ _ _ ra
              have ma1_2 : u10.cell? ⟨w.heap.size, 2, none⟩ = some (.int .i64 cc) := cell_of_row _ _ 2 _ _ _ ra
              have ma1_3 : u10.cell? ⟨w.heap.size, 3, none⟩ = some (.int .i64 v) := cell_of_row _ _ 3 _ _ _ ra
              go_wp2_with fail
              refine bodyPost_ret (v := .tuple #[.agg #[.int .i64 k, .int .i64 a, .int .i64 cc, .int .i64 v], .int .i64 y]) (by simp [results, Try.results8, go_sem, ma1_0, ma1_1, ma1_2, ma1_3]) rfl ?_
              exact ⟨k, a, cc, v, y, rfl, c4, hy, hB⟩
            exact AllReadyH.nil
          refine AllReadyH.cons rfl (fun K hK => ?_) ?_
          · have z10_0 := frzRow ra 0
            have z10_1 := frzRow ra 1
            have z10_2 := frzRow ra 2
            have z10_3 := frzRow ra 3
            have y10_0 : w9.cell? ⟨w.heap.size, 0, none⟩ = some (.int .i64 0) := cell_of_row _ _ 0 _ _ _ ra
            have y10_1 : w9.cell? ⟨w.heap.size, 1, none⟩ = some (.int .i64 0) := cell_of_row _ _ 1 _ _ _ ra
            have y10_2 : w9.cell? ⟨w.heap.size, 2, none⟩ = some (.int .i64 0) := cell_of_row _ _ 2 _ _ _ ra
            have y10_3 : w9.cell? ⟨w.heap.size, 3, none⟩ = some (.int .i64 0) := cell_of_row _ _ 3 _ _ _ ra
            replace rx := rowSet (rowSet (rowSet (rowSet (rx) ⟨w.heap.size, 0, none⟩ (.int .i64 k) (by show _ ≠ w.heap.size; omega)) ⟨w.heap.size, 1, none⟩ (.int .i64 a) (by show _ ≠ w.heap.size; omega)) ⟨w.heap.size, 2, none⟩ (.int .i64 cc) (by show _ ≠ w.heap.size; omega)) ⟨w.heap.size, 3, none⟩ (.int .i64 v) (by show _ ≠ w.heap.size; omega)
            replace rq := rowSet (rowSet (rowSet (rowSet (rq) ⟨w.heap.size, 0, none⟩ (.int .i64 k) (by show _ ≠ w.heap.size; omega)) ⟨w.heap.size, 1, none⟩ (.int .i64 a) (by show _ ≠ w.heap.size; omega)) ⟨w.heap.size, 2, none⟩ (.int .i64 cc) (by show _ ≠ w.heap.size; omega)) ⟨w.heap.size, 3, none⟩ (.int .i64 v) (by show _ ≠ w.heap.size; omega)
            replace rp := rowSet (rowSet (rowSet (rowSet (rp) ⟨w.heap.size, 0, none⟩ (.int .i64 k) (by show _ ≠ w.heap.size; omega)) ⟨w.heap.size, 1, none⟩ (.int .i64 a) (by show _ ≠ w.heap.size; omega)) ⟨w.heap.size, 2, none⟩ (.int .i64 cc) (by show _ ≠ w.heap.size; omega)) ⟨w.heap.size, 3, none⟩ (.int .i64 v) (by show _ ≠ w.heap.size; omega)
            replace ra := set43 (set42 (set41 (set40 (ra) (.int .i64 k)) (.int .i64 a)) (.int .i64 cc)) (.int .i64 v)
            clear hr
            replace hB := ((((hB).setCell (p := ⟨w.heap.size, 0, none⟩) (by show _ ≤ w.heap.size; omega) (.int .i64 k)).setCell (p := ⟨w.heap.size, 1, none⟩) (by show _ ≤ w.heap.size; omega) (.int .i64 a)).setCell (p := ⟨w.heap.size, 2, none⟩) (by show _ ≤ w.heap.size; omega) (.int .i64 cc)).setCell (p := ⟨w.heap.size, 3, none⟩) (by show _ ≤ w.heap.size; omega) (.int .i64 v)
            have s10 : w9.heap.size ≤ ((((w9.setCell ⟨w.heap.size, 0, none⟩ (.int .i64 k)).setCell ⟨w.heap.size, 1, none⟩ (.int .i64 a)).setCell ⟨w.heap.size, 2, none⟩ (.int .i64 cc)).setCell ⟨w.heap.size, 3, none⟩ (.int .i64 v)).heap.size := by simp only [World.size_setCell]; exact Nat.le_refl _
            have mx6_0 : ((((w9.setCell ⟨w.heap.size, 0, none⟩ (.int .i64 k)).setCell ⟨w.heap.size, 1, none⟩ (.int .i64 a)).setCell ⟨w.heap.size, 2, none⟩ (.int .i64 cc)).setCell ⟨w.heap.size, 3, none⟩ (.int .i64 v)).cell? ⟨w4.heap.size, 0, none⟩ = some (.int .i64 k) := cell_of_row _ _ 0 _ _ _ rx
            have mx6_1 : ((((w9.setCell ⟨w.heap.size, 0, none⟩ (.int .i64 k)).setCell ⟨w.heap.size, 1, none⟩ (.int .i64 a)).setCell ⟨w.heap.size, 2, none⟩ (.int .i64 cc)).setCell ⟨w.heap.size, 3, none⟩ (.int .i64 v)).cell? ⟨w4.heap.size, 1, none⟩ = some (.int .i64 a) := cell_of_row _ _ 1 _ _ _ rx
            have mx6_2 : ((((w9.setCell ⟨w.heap.size, 0, none⟩ (.int .i64 k)).setCell ⟨w.heap.size, 1, none⟩ (.int .i64 a)).setCell ⟨w.heap.size, 2, none⟩ (.int .i64 cc)).setCell ⟨w.heap.size, 3, none⟩ (.int .i64 v)).cell? ⟨w4.heap.size, 2, none⟩ = some (.int .i64 cc) := cell_of_row _ _ 2 _ _ _ rx
            have mx6_3 : ((((w9.setCell ⟨w.heap.size, 0, none⟩ (.int .i64 k)).setCell ⟨w.heap.size, 1, none⟩ (.int .i64 a)).setCell ⟨w.heap.size, 2, none⟩ (.int .i64 cc)).setCell ⟨w.heap.size, 3, none⟩ (.int .i64 v)).cell? ⟨w4.heap.size, 3, none⟩ = some (.int .i64 v) := cell_of_row _ _ 3 _ _ _ rx
            go_simp
            refine hK.out _ _ ⟨mx6_0, mx6_1, mx6_2, mx6_3⟩ (fun hHeld => ?_)
            clear z10_0 z10_1 z10_2 z10_3 y10_0 y10_1 y10_2 y10_3 mx5_0 mx5_1 mx5_2 mx5_3
            generalize ((((w9.setCell ⟨w.heap.size, 0, none⟩ (.int .i64 k)).setCell ⟨w.heap.size, 1, none⟩ (.int .i64 a)).setCell ⟨w.heap.size, 2, none⟩ (.int .i64 cc)).setCell ⟨w.heap.size, 3, none⟩ (.int .i64 v)) = u10 at *
            clear hK K
            try simp only [Act.put, List.getElem_toArray, List.getElem_cons_zero, List.getElem_cons_succ, List.setIfInBounds_toArray, List.set_cons_zero, List.set_cons_succ]
            refine wpAnyH_ready (rs := [9]) (by kernel_rfl) (by simp) ?_
            refine AllReadyH.cons rfl (fun K hK => ?_) ?_
            · obtain ⟨y, hy, hpk⟩ := pickL (fun x => -1 ≤ x ∧ x ≤ 65) [size, (-1), 65] i (by intro z hz; simp only [List.mem_cons, List.not_mem_nil, or_false] at hz; omega) i0 i1
              have hcw := lit_at rp hpk
              clear hpk
              go_simp
              refine hK.out _ _ ⟨mx6_0, mx6_1, mx6_2, mx6_3⟩ (fun hHeld => ?_)
              clear hK K
              try simp only [Act.put, List.getElem_toArray, List.getElem_cons_zero, List.getElem_cons_succ, List.setIfInBounds_toArray, List.set_cons_zero, List.set_cons_succ]
              refine wpAnyH_take (i := 11) (v := ?_) rfl (by kernel_rfl) (by kernel_rfl) (by kernel_rfl) (fun _ _ _ h => h) (Or.inl ⟨by rfl, ?_⟩) (by assumption) ?_
              rotate_left
              · (intro wz hSw; (try dsimp only at hSw); go_simp; try with_reducible rfl)
              simp only [Act.put, List.getElem_toArray, List.getElem_cons_zero, List.getElem_cons_succ, List.setIfInBounds_toArray, List.set_cons_zero, List.set_cons_succ]
              refine wpAnyH_done (by kernel_rfl) ?_ _
              refine NoPanic.normal ?_
              have ma1_0 : u10.cell? ⟨w.heap.size, 0, none⟩ = some (.int .i64 k) := cell_of_row _ _ 0 _ _ _ ra
              have ma1_1 : u10.cell? ⟨w.heap.size, 1, none⟩ = some (.int .i64 a) := cell_of_row _ _ 1 _ _ _ ra
              have ma1_2 : u10.cell? ⟨w.heap.size, 2, none⟩ = some (.int .i64 cc) := cell_of_row _ _ 2 _ _ _ ra
              have ma1_3 : u10.cell? ⟨w.heap.size, 3, none⟩ = some (.int .i64 v) := cell_of_row _ _ 3 _ _ _ ra
              go_wp2_with fail
              refine bodyPost_ret (v := .tuple #[.agg #[.int .i64 k, .int .i64 a, .int .i64 cc, .int .i64 v], .int .i64 y]) (by simp [results, Try.results8, go_sem, ma1_0, ma1_1, ma1_2, ma1_3]) rfl ?_
              exact ⟨k, a, cc, v, y, rfl, c4, hy, hB⟩
            exact AllReadyH.nil
          exact AllReadyH.nil
        refine AllReadyH.cons rfl (fun K hK => ?_) ?_
        · have z10_0 := frzRow ra 0
          have z10_1 := frzRow ra 1
          have z10_2 := frzRow ra 2
          have z10_3 := frzRow ra 3
          have y10_0 : w9.cell? ⟨w.heap.size, 0, none⟩ = some (.int .i64 0) := cell_of_row _ _ 0 _ _ _ ra
          have y10_1 : w9.cell? ⟨w.heap.size, 1, none⟩ = some (.int .i64 0) := cell_of_row _ _ 1 _ _ _ ra
          have y10_2 : w9.cell? ⟨w.heap.size, 2, none⟩ = some (.int .i64 0) := cell_of_row _ _ 2 _ _ _ ra
          have y10_3 : w9.cell? ⟨w.heap.size, 3, none⟩ = some (.int .i64 0) := cell_of_row _ _ 3 _ _ _ ra
          replace rx := rowSet (rowSet (rowSet (rowSet (rx) ⟨w.heap.size, 0, none⟩ (.int .i64 k) (by show _ ≠ w.heap.size; omega)) ⟨w.heap.size, 1, none⟩ (.int .i64 a) (by show _ ≠ w.heap.size; omega)) ⟨w.heap.size, 2, none⟩ (.int .i64 cc) (by show _ ≠ w.heap.size; omega)) ⟨w.heap.size, 3, none⟩ (.int .i64 v) (by show _ ≠ w.heap.size; omega)
          replace rq := rowSet (rowSet (rowSet (rowSet (rq) ⟨w.heap.size, 0, none⟩ (.int .i64 k) (by show _ ≠ w.heap.size; omega)) ⟨w.heap.size, 1, none⟩ (.int .i64 a) (by show _ ≠ w.heap.size; omega)) ⟨w.heap.size, 2, none⟩ (.int .i64 cc) (by show _ ≠ w.heap.size; omega)) ⟨w.heap.size, 3, none⟩ (.int .i64 v) (by show _ ≠ w.heap.size; omega)
          replace rp := rowSet (rowSet (rowSet (rowSet (rp) ⟨w.heap.size, 0, none⟩ (.int .i64 k) (by show _ ≠ w.heap.size; omega)) ⟨w.heap.size, 1, none⟩ (.int .i64 a) (by show _ ≠ w.heap.size; omega)) ⟨w.heap.size, 2, none⟩ (.int .i64 cc) (by show _ ≠ w.heap.size; omega)) ⟨w.heap.size, 3, none⟩ (.int .i64 v) (by show _ ≠ w.heap.size; omega)
          replace ra := set43 (set42 (set41 (set40 (ra) (.int .i64 k)) (.int .i64 a)) (.int .i64 cc)) (.int .i64 v)
          clear hr
          replace hB := ((((hB).setCell (p := ⟨w.heap.size, 0, none⟩) (by show _ ≤ w.heap.size; omega) (.int .i64 k)).setCell (p := ⟨w.heap.size, 1, none⟩) (by show _ ≤ w.heap.size; omega) (.int .i64 a)).setCell (p := ⟨w.heap.size, 2, none⟩) (by show _ ≤ w.heap.size; omega) (.int .i64 cc)).setCell (p := ⟨w.heap.size, 3, none⟩) (by show _ ≤ w.heap.size; omega) (.int .i64 v)
          have s10 : w9.heap.size ≤ ((((w9.setCell ⟨w.heap.size, 0, none⟩ (.int .i64 k)).setCell ⟨w.heap.size, 1, none⟩ (.int .i64 a)).setCell ⟨w.heap.size, 2, none⟩ (.int .i64 cc)).setCell ⟨w.heap.size, 3, none⟩ (.int .i64 v)).heap.size := by simp only [World.size_setCell]; exact Nat.le_refl _
          have mx6_0 : ((((w9.setCell ⟨w.heap.size, 0, none⟩ (.int .i64 k)).setCell ⟨w.heap.size, 1, none⟩ (.int .i64 a)).setCell ⟨w.heap.size, 2, none⟩ (.int .i64 cc)).setCell ⟨w.heap.size, 3, none⟩ (.int .i64 v)).cell? ⟨w4.heap.size, 0, none⟩ = some (.int .i64 k) := cell_of_row _ _ 0 _ _ _ rx
          have mx6_1 : ((((w9.setCell ⟨w.heap.size, 0, none⟩ (.int .i64 k)).setCell ⟨w.heap.size, 1, none⟩ (.int .i64 a)).setCell ⟨w.heap.size, 2, none⟩ (.int .i64 cc)).setCell ⟨w.heap.size, 3, none⟩ (.int .i64 v)).cell? ⟨w4.heap.size, 1, none⟩ = some (.int .i64 a) := cell_of_row _ _ 1 _ _ _ rx
          have mx6_2 : ((((w9.setCell ⟨w.heap.size, 0, none⟩ (.int .i64 k)).setCell ⟨w.heap.size, 1, none⟩ (.int .i64 a)).setCell ⟨w.heap.size, 2, none⟩ (.int .i64 cc)).setCell ⟨w.heap.size, 3, none⟩ (.int .i64 v)).cell? ⟨w4.heap.size, 2, none⟩ = some (.int .i64 cc) := cell_of_row _ _ 2 _ _ _ rx
          have mx6_3 : ((((w9.setCell ⟨w.heap.size, 0, none⟩ (.int .i64 k)).setCell ⟨w.heap.size, 1, none⟩ (.int .i64 a)).setCell ⟨w.heap.size, 2, none⟩ (.int .i64 cc)).setCell ⟨w.heap.size, 3, none⟩ (.int .i64 v)).cell? ⟨w4.heap.size, 3, none⟩ = some (.int .i64 v) := cell_of_row _ _ 3 _ _ _ rx
          go_simp
          refine hK.out _ _ ⟨mx6_0, mx6_1, mx6_2, mx6_3⟩ (fun hHeld => ?_)
          clear z10_0 z10_1 z10_2 z10_3 y10_0 y10_1 y10_2 y10_3 mx5_0 mx5_1 mx5_2 mx5_3
          generalize ((((w9.setCell ⟨w.heap.size, 0, none⟩ (.int .i64 k)).setCell ⟨w.heap.size, 1, none⟩ (.int .i64 a)).setCell ⟨w.heap.size, 2, none⟩ (.int .i64 cc)).setCell ⟨w.heap.size, 3, none⟩ (.int .i64 v)) = u10 at *
          clear hK K
          try simp only [Act.put, List.getElem_toArray, List.getElem_cons_zero, List.getElem_cons_succ, List.setIfInBounds_toArray, List.set_cons_zero, List.set_cons_succ]
          refine wpAnyH_ready (rs := [7]) (by kernel_rfl) (by simp) ?_
          refine AllReadyH.cons rfl (fun K hK => ?_) ?_
          · obtain ⟨i, hi, hpk⟩ := pickL (fun x => 0 ≤ x ∧ x < 3) [0, 0, 0, 0, 0, 1, 2] j (by decide) j0 j1
            obtain ⟨i0, i1⟩ := hi
            have hcv := lit_at rq hpk
            clear hpk
            go_simp
            refine hK.out _ _ ⟨mx6_0, mx6_1, mx6_2, mx6_3⟩ (fun hHeld => ?_)
            clear hK K
            try simp only [Act.put, List.getElem_toArray, List.getElem_cons_zero, List.getElem_cons_succ, List.setIfInBounds_toArray, List.set_cons_zero, List.set_cons_succ]
            refine wpAnyH_take (i := 8) (v := ?_) rfl (by kernel_rfl) (by kernel_rfl) (by kernel_rfl) (fun _ _ _ h => h) (Or.inl ⟨by rfl, ?_⟩) (by assumption) ?_
            rotate_left
            · (intro wz hSw; (try dsimp only at hSw); go_simp; try with_reducible rfl)
            simp only [Act.put, List.getElem_toArray, List.getElem_cons_zero, List.getElem_cons_succ, List.setIfInBounds_toArray, List.set_cons_zero, List.set_cons_succ]
            refine wpAnyH_ready (rs := [9]) (by kernel_rfl) (by simp) ?_
            refine AllReadyH.cons rfl (fun K hK => ?_) ?_
            · obtain ⟨y, hy, hpk⟩ := pickL (fun x => -1 ≤ x ∧ x ≤ 65) [size, (-1), 65] i (by intro z hz; simp only [List.mem_cons, List.not_mem_nil, or_false] at hz; omega) i0 i1
              have hcw := lit_at rp hpk
              clear hpk
              go_simp
              refine hK.out _ _ ⟨mx6_0, mx6_1, mx6_2, mx6_3⟩ (fun hHeld => ?_)
              clear hK K
              try simp only [Act.put, List.getElem_toArray, List.getElem_cons_zero, List.getElem_cons_succ, List.setIfInBounds_toArray, List.set_cons_zero, List.set_cons_succ]
              refine wpAnyH_take (i := 11) (v := ?_) rfl (by kernel_rfl) (by kernel_rfl) (by kernel_rfl) (fun _ _ _ h => h) (Or.inl ⟨by rfl, ?_⟩) (by assumption) ?_
              rotate_left
              · (intro wz hSw; (try dsimp only at hSw); go_simp; try with_reducible rfl)
              simp only [Act.put, List.getElem_toArray, List.getElem_cons_zero, List.getElem_cons_succ, List.setIfInBounds_toArray, List.set_cons_zero, List.set_cons_succ]
              refine wpAnyH_done (by kernel_rfl) ?_ _
              refine NoPanic.normal ?_
              have ma1_0 : u10.cell? ⟨w.heap.size, 0, none⟩ = some (.int .i64 k) := cell_of_row _ _ 0 _ _ _ ra
              have ma1_1 : u10.cell? ⟨w.heap.size, 1, none⟩ = some (.int .i64 a) := cell_of_row _ _ 1 _ _ _ ra
              have ma1_2 : u10.cell? ⟨w.heap.size, 2, none⟩ = some (.int .i64 cc) := cell_of_row _ _ 2 _ _ _ ra
              have ma1_3 : u10.cell? ⟨w.heap.size, 3, none⟩ = some (.int .i64 v) := cell_of_row _ _ 3 _ _ _ ra
              go_wp2_with fail
              refine bodyPost_ret (v := .tuple #[.agg #[.int .i64 k, .int .i64 a, .int .i64 cc, .int .i64 v], .int .i64 y]) (by simp [results, Try.results8, go_sem, ma1_0, ma1_1, ma1_2, ma1_3]) rfl ?_
              exact ⟨k, a, cc, v, y, rfl, c4, hy, hB⟩
            exact AllReadyH.nil
          exact AllReadyH.nil
        exact AllReadyH.nil
      exact AllReadyH.nil
    refine AllReadyH.cons rfl (fun K hK => ?_) ?_
    · go_simp
      refine (pick_any (u1.heap.size) (p4) (7) _ hr (by omega)).mono ?_
      rintro e w8 ⟨j, rfl, h8, q8, f8, e8⟩
      have s8 := f8.size
      clear hr
      have hr := q8
      clear q8
      clear mx3_0 mx3_1 mx3_2 mx3_3
      replace ra := rowFr ra f8 (by omega)
      replace rx := rowFr rx f8 (by omega)
      replace rq := rowFr rq f8 (by omega)
      replace hB := f8.below hB (by omega) (by omega)
      have mx4_0 : w8.cell? ⟨w4.heap.size, 0, none⟩ = some (.int .i64 k) := cell_of_row _ _ 0 _ _ _ rx
      have mx4_1 : w8.cell? ⟨w4.heap.size, 1, none⟩ = some (.int .i64 a) := cell_of_row _ _ 1 _ _ _ rx
      have mx4_2 : w8.cell? ⟨w4.heap.size, 2, none⟩ = some (.int .i64 cc) := cell_of_row _ _ 2 _ _ _ rx
      have mx4_3 : w8.cell? ⟨w4.heap.size, 3, none⟩ = some (.int .i64 v) := cell_of_row _ _ 3 _ _ _ rx
      clear f8
      obtain ⟨j0, j1⟩ : 0 ≤ j ∧ j < 7 := by omega
      clear h8 e8
      refine hK.out _ _ ⟨mx4_0, mx4_1, mx4_2, mx4_3⟩ (fun hHeld => ?_)
      clear hK K
      try simp only [Act.put, List.getElem_toArray, List.getElem_cons_zero, List.getElem_cons_succ, List.setIfInBounds_toArray, List.set_cons_zero, List.set_cons_succ]
      refine wpAnyH_take (i := 6) (v := ?_) rfl (by kernel_rfl) (by kernel_rfl) (by kernel_rfl) (fun _ _ _ h => h) (Or.inl ⟨by rfl, ?_⟩) (by assumption) ?_
      rotate_left
      · (intro wz hSw; (try dsimp only at hSw); go_simp; try with_reducible rfl)
      simp only [Act.put, List.getElem_toArray, List.getElem_cons_zero, List.getElem_cons_succ, List.setIfInBounds_toArray, List.set_cons_zero, List.set_cons_succ]
      refine wpAnyH_ready (rs := [2, 7, 10]) (by kernel_rfl) (by simp) ?_
      refine AllReadyH.cons rfl (fun K hK => ?_) ?_
      · have hn9 := below_new w8 (.cells #[.int .i64 size, .int .i64 (-1), .int .i64 65] 3)
        replace ra := rowKeep ra hn9
        replace rx := rowKeep rx hn9
        replace rq := rowKeep rq hn9
        replace hr := hr.below hn9
        replace hB := below_later hB hn9 (by omega)
        have mx5_0 : (w8.alloc (.cells #[.int .i64 size, .int .i64 (-1), .int .i64 65] 3)).cell? ⟨w4.heap.size, 0, none⟩ = some (.int .i64 k) := cell_of_row _ _ 0 _ _ _ rx
        have mx5_1 : (w8.alloc (.cells #[.int .i64 size, .int .i64 (-1), .int .i64 65] 3)).cell? ⟨w4.heap.size, 1, none⟩ = some (.int .i64 a) := cell_of_row _ _ 1 _ _ _ rx
        have mx5_2 : (w8.alloc (.cells #[.int .i64 size, .int .i64 (-1), .int .i64 65] 3)).cell? ⟨w4.heap.size, 2, none⟩ = some (.int .i64 cc) := cell_of_row _ _ 2 _ _ _ rx
        have mx5_3 : (w8.alloc (.cells #[.int .i64 size, .int .i64 (-1), .int .i64 65] 3)).cell? ⟨w4.heap.size, 3, none⟩ = some (.int .i64 v) := cell_of_row _ _ 3 _ _ _ rx
        clear hn9
        have s9 : w8.heap.size < (w8.alloc (.cells #[.int .i64 size, .int .i64 (-1), .int .i64 65] 3)).heap.size := Nat.lt_of_lt_of_eq (Nat.lt_succ_self _) (World.size_alloc _ _).symm
        have rp : (w8.alloc (.cells #[.int .i64 size, .int .i64 (-1), .int .i64 65] 3)).heap[w8.heap.size]? = some (.cells #[.int .i64 size, .int .i64 (-1), .int .i64 65] 3 (0, 0)) := by have q := heap_alloc_new w8 (.cells #[.int .i64 size, .int .i64 (-1), .int .i64 65] 3); (try simp only [World.size_alloc, World.size_setCell] at q); exact q
        go_simp
        refine hK.out _ _ ⟨mx5_0, mx5_1, mx5_2, mx5_3⟩ (fun hHeld => ?_)
        clear mx4_0 mx4_1 mx4_2 mx4_3
        generalize (w8.alloc (.cells #[.int .i64 size, .int .i64 (-1), .int .i64 65] 3)) = u9 at *
        clear hK K
        try simp only [Act.put, List.getElem_toArray, List.getElem_cons_zero, List.getElem_cons_succ, List.setIfInBounds_toArray, List.set_cons_zero, List.set_cons_succ]
        refine wpAnyH_ready (rs := [7, 10]) (by kernel_rfl) (by simp) ?_
        refine AllReadyH.cons rfl (fun K hK => ?_) ?_
        · obtain ⟨i, hi, hpk⟩ := pickL (fun x => 0 ≤ x ∧ x < 3) [0, 0, 0, 0, 0, 1, 2] j (by decide) j0 j1
          obtain ⟨i0, i1⟩ := hi
          have hcv := lit_at rq hpk
          clear hpk
          go_simp
          refine hK.out _ _ ⟨mx5_0, mx5_1, mx5_2, mx5_3⟩ (fun hHeld => ?_)
          clear hK K
          try simp only [Act.put, List.getElem_toArray, List.getElem_cons_zero, List.getElem_cons_succ, List.setIfInBounds_toArray, List.set_cons_zero, List.set_cons_succ]
          refine wpAnyH_take (i := 8) (v := ?_) rfl (by kernel_rfl) (by kernel_rfl) (by kernel_rfl) (fun _ _ _ h => h) (Or.inl ⟨by rfl, ?_⟩) (by assumption) ?_
          rotate_left
          · (intro wz hSw; (try dsimp only at hSw); go_simp; try with_reducible rfl)
          simp only [Act.put, List.getElem_toArray, List.getElem_cons_zero, List.getElem_cons_succ, List.setIfInBounds_toArray, List.set_cons_zero, List.set_cons_succ]
          refine wpAnyH_ready (rs := [9, 10]) (by kernel_rfl) (by simp) ?_
          refine AllReadyH.cons rfl (fun K hK => ?_) ?_
          · obtain ⟨y, hy, hpk⟩ := pickL (fun x => -1 ≤ x ∧ x ≤ 65) [size, (-1), 65] i (by intro z hz; simp only [List.mem_cons, List.not_mem_nil, or_false] at hz; omega) i0 i1
            have hcw := lit_at rp hpk
            clear hpk
            go_simp
            refine hK.out _ _ ⟨mx5_0, mx5_1, mx5_2, mx5_3⟩ (fun hHeld => ?_)
            clear hK K
            try simp only [Act.put, List.getElem_toArray, List.getElem_cons_zero, List.getElem_cons_succ, List.setIfInBounds_toArray, List.set_cons_zero, List.set_cons_succ]
            refine wpAnyH_ready (rs := [10]) (by kernel_rfl) (by simp) ?_
            refine AllReadyH.cons rfl (fun K hK => ?_) ?_
            · have z10_0 := frzRow ra 0
              have z10_1 := frzRow ra 1
              have z10_2 := frzRow ra 2
              have z10_3 := frzRow ra 3
              have y10_0 : u9.cell? ⟨w.heap.size, 0, none⟩ = some (.int .i64 0) := cell_of_row _ _ 0 _ _ _ ra
              have y10_1 : u9.cell? ⟨w.heap.size, 1, none⟩ = some (.int .i64 0) := cell_of_row _ _ 1 _ _ _ ra
              have y10_2 : u9.cell? ⟨w.heap.size, 2, none⟩ = some (.int .i64 0) := cell_of_row _ _ 2 _ _ _ ra
              have y10_3 : u9.cell? ⟨w.heap.size, 3, none⟩ = some (.int .i64 0) := cell_of_row _ _ 3 _ _ _ ra
              replace rx := rowSet (rowSet (rowSet (rowSet (rx) ⟨w.heap.size, 0, none⟩ (.int .i64 k) (by show _ ≠ w.heap.size; omega)) ⟨w.heap.size, 1, none⟩ (.int .i64 a) (by show _ ≠ w.heap.size; omega)) ⟨w.heap.size, 2, none⟩ (.int .i64 cc) (by show _ ≠ w.heap.size; omega)) ⟨w.heap.size, 3, none⟩ (.int .i64 v) (by show _ ≠ w.heap.size; omega)
              replace rq := rowSet (rowSet (rowSet (rowSet (rq) ⟨w.heap.size, 0, none⟩ (.int .i64 k) (by show _ ≠ w.heap.size; omega)) ⟨w.heap.size, 1, none⟩ (.int .i64 a) (by show _ ≠ w.heap.size; omega)) ⟨w.heap.size, 2, none⟩ (.int .i64 cc) (by show _ ≠ w.heap.size; omega)) ⟨w.heap.size, 3, none⟩ (.int .i64 v) (by show _ ≠ w.heap.size; omega)
              replace rp := rowSet (rowSet (rowSet (rowSet (rp) ⟨w.heap.size, 0, none⟩ (.int .i64 k) (by show _ ≠ w.heap.size; omega)) ⟨w.heap.size, 1, none⟩ (.int .i64 a) (by show _ ≠ w.heap.size; omega)) ⟨w.heap.size, 2, none⟩ (.int .i64 cc) (by show _ ≠ w.heap.size; omega)) ⟨w.heap.size, 3, none⟩ (.int .i64 v) (by show _ ≠ w.heap.size; omega)
              replace ra := set43 (set42 (set41 (set40 (ra) (.int .i64 k)) (.int .i64 a)) (.int .i64 cc)) (.int .i64 v)
              clear hr
              replace hB := ((((hB).setCell (p := ⟨w.heap.size, 0, none⟩) (by show _ ≤ w.heap.size; omega) (.int .i64 k)).setCell (p := ⟨w.heap.size, 1, none⟩) (by show _ ≤ w.heap.size; omega) (.int .i64 a)).setCell (p := ⟨w.heap.size, 2, none⟩) (by show _ ≤ w.heap.size; omega) (.int .i64 cc)).setCell (p := ⟨w.heap.size, 3, none⟩) (by show _ ≤ w.heap.size; omega) (.int .i64 v)
              have s10 : u9.heap.size ≤ ((((u9.setCell ⟨w.heap.size, 0, none⟩ (.int .i64 k)).setCell ⟨w.heap.size, 1, none⟩ (.int .i64 a)).setCell ⟨w.heap.size, 2, none⟩ (.int .i64 cc)).setCell ⟨w.heap.size, 3, none⟩ (.int .i64 v)).heap.size := by simp only [World.size_setCell]; exact Nat.le_refl _
              have mx6_0 : ((((u9.setCell ⟨w.heap.size, 0, none⟩ (.int .i64 k)).setCell ⟨w.heap.size, 1, none⟩ (.int .i64 a)).setCell ⟨w.heap.size, 2, none⟩ (.int .i64 cc)).setCell ⟨w.heap.size, 3, none⟩ (.int .i64 v)).cell? ⟨w4.heap.size, 0, none⟩ = some (.int .i64 k) := cell_of_row _ _ 0 _ _ _ rx
              have mx6_1 : ((((u9.setCell ⟨w.heap.size, 0, none⟩ (.int .i64 k)).setCell ⟨w.heap.size, 1, none⟩ (.int .i64 a)).setCell ⟨w.heap.size, 2, none⟩ (.int .i64 cc)).setCell ⟨w.heap.size, 3, none⟩ (.int .i64 v)).cell? ⟨w4.heap.size, 1, none⟩ = some (.int .i64 a) := cell_of_row _ _ 1 _ _ _ rx
              have mx6_2 : ((((u9.setCell ⟨w.heap.size, 0, none⟩ (.int .i64 k)).setCell ⟨w.heap.size, 1, none⟩ (.int .i64 a)).setCell ⟨w.heap.size, 2, none⟩ (.int .i64 cc)).setCell ⟨w.heap.size, 3, none⟩ (.int .i64 v)).cell? ⟨w4.heap.size, 2, none⟩ = some (.int .i64 cc) := cell_of_row _ _ 2 _ _ _ rx
              have mx6_3 : ((((u9.setCell ⟨w.heap.size, 0, none⟩ (.int .i64 k)).setCell ⟨w.heap.size, 1, none⟩ (.int .i64 a)).setCell ⟨w.heap.size, 2, none⟩ (.int .i64 cc)).setCell ⟨w.heap.size, 3, none⟩ (.int .i64 v)).cell? ⟨w4.heap.size, 3, none⟩ = some (.int .i64 v) := cell_of_row _ _ 3 _ _ _ rx
              go_simp
              refine hK.out _ _ ⟨mx6_0, mx6_1, mx6_2, mx6_3⟩ (fun hHeld => ?_)
              clear z10_0 z10_1 z10_2 z10_3 y10_0 y10_1 y10_2 y10_3 mx5_0 mx5_1 mx5_2 mx5_3
              generalize ((((u9.setCell ⟨w.heap.size, 0, none⟩ (.int .i64 k)).setCell ⟨w.heap.size, 1, none⟩ (.int .i64 a)).setCell ⟨w.heap.size, 2, none⟩ (.int .i64 cc)).setCell ⟨w.heap.size, 3, none⟩ (.int .i64 v)) = u10 at *
              clear hK K
              try simp only [Act.put, List.getElem_toArray, List.getElem_cons_zero, List.getElem_cons_succ, List.setIfInBounds_toArray, List.set_cons_zero, List.set_cons_succ]
              refine wpAnyH_take (i := 11) (v := ?_) rfl (by kernel_rfl) (by kernel_rfl) (by kernel_rfl) (fun _ _ _ h => h) (Or.inl ⟨by rfl, ?_⟩) (by assumption) ?_
              rotate_left
              · (intro wz hSw; (try dsimp only at hSw); go_simp; try with_reducible rfl)
              simp only [Act.put, List.getElem_toArray, List.getElem_cons_zero, List.getElem_cons_succ, List.setIfInBounds_toArray, List.set_cons_zero, List.set_cons_succ]
              refine wpAnyH_done (by kernel_rfl) ?_ _
              refine NoPanic.normal ?_
              have ma1_0 : u10.cell? ⟨w.heap.size, 0, none⟩ = some (.int .i64 k) := cell_of_row _ _ 0 _ _ _ ra
              have ma1_1 : u10.cell? ⟨w.heap.size, 1, none⟩ = some (.int .i64 a) := cell_of_row _ _ 1 _ _ _ ra
              have ma1_2 : u10.cell? ⟨w.heap.size, 2, none⟩ = some (.int .i64 cc) := cell_of_row _ _ 2 _ _ _ ra
              have ma1_3 : u10.cell? ⟨w.heap.size, 3, none⟩ = some (.int .i64 v) := cell_of_row _ _ 3 _ _ _ ra
              go_wp2_with fail
              refine bodyPost_ret (v := .tuple #[.agg #[.int .i64 k, .int .i64 a, .int .i64 cc, .int .i64 v], .int .i64 y]) (by simp [results, Try.results8, go_sem, ma1_0, ma1_1, ma1_2, ma1_3]) rfl ?_
              exact ⟨k, a, cc, v, y, rfl, c4, hy, hB⟩
            exact AllReadyH.nil
          refine AllReadyH.cons rfl (fun K hK => ?_) ?_
          · have z10_0 := frzRow ra 0
            have z10_1 := frzRow ra 1
            have z10_2 := frzRow ra 2
            have z10_3 := frzRow ra 3
            have y10_0 : u9.cell? ⟨w.heap.size, 0, none⟩ = some (.int .i64 0) := cell_of_row _ _ 0 _ _ _ ra
            have y10_1 : u9.cell? ⟨w.heap.size, 1, none⟩ = some (.int .i64 0) := cell_of_row _ _ 1 _ _ _ ra
            have y10_2 : u9.cell? ⟨w.heap.size, 2, none⟩ = some (.int .i64 0) := cell_of_row _ _ 2 _ _ _ ra
            have y10_3 : u9.cell? ⟨w.heap.size, 3, none⟩ = some (.int .i64 0) := cell_of_row _ _ 3 _ _ _ ra
            replace rx := rowSet (rowSet (rowSet (rowSet (rx) ⟨w.heap.size, 0, none⟩ (.int .i64 k) (by show _ ≠ w.heap.size; omega)) ⟨w.heap.size, 1, none⟩ (.int .i64 a) (by show _ ≠ w.heap.size; omega)) ⟨w.heap.size, 2, none⟩ (.int .i64 cc) (by show _ ≠ w.heap.size; omega)) ⟨w.heap.size, 3, none⟩ (.int .i64 v) (by show _ ≠ w.heap.size; omega)
            replace rq := rowSet (rowSet (rowSet (rowSet (rq) ⟨w.heap.size, 0, none⟩ (.int .i64 k) (by show _ ≠ w.heap.size; omega)) ⟨w.heap.size, 1, none⟩ (.int .i64 a) (by show _ ≠ w.heap.size; omega)) ⟨w.heap.size, 2, none⟩ (.int .i64 cc) (by show _ ≠ w.heap.size; omega)) ⟨w.heap.size, 3, none⟩ (.int .i64 v) (by show _ ≠ w.heap.size; omega)
            replace rp := rowSet (rowSet (rowSet (rowSet (rp) ⟨w.heap.size, 0, none⟩ (.int .i64 k) (by show _ ≠ w.heap.size; omega)) ⟨w.heap.size, 1, none⟩ (.int .i64 a) (by show _ ≠ w.heap.size; omega)) ⟨w.heap.size, 2, none⟩ (.int .i64 cc) (by show _ ≠ w.heap.size; omega)) ⟨w.heap.size, 3, none⟩ (.int .i64 v) (by show _ ≠ w.heap.size; omega)
            replace ra := set43 (set42 (set41 (set40 (ra) (.int .i64 k)) (.int .i64 a)) (.int .i64 cc)) (.int .i64 v)
            clear hr
            replace hB := ((((hB).setCell (p := ⟨w.heap.size, 0, none⟩) (by show _ ≤ w.heap.size; omega) (.int .i64 k)).setCell (p := ⟨w.heap.size, 1, none⟩) (by show _ ≤ w.heap.size; omega) (.int .i64 a)).setCell (p := ⟨w.heap.size, 2, none⟩) (by show _ ≤ w.heap.size; omega) (.int .i64 cc)).setCell (p := ⟨w.heap.size, 3, none⟩) (by show _ ≤ w.heap.size; omega) (.int .i64 v)
            have s10 : u9.heap.size ≤ ((((u9.setCell ⟨w.heap.size, 0, none⟩ (.int .i64 k)).setCell ⟨w.heap.size, 1, none⟩ (.int .i64 a)).setCell ⟨w.heap.size, 2, none⟩ (.int .i64 cc)).setCell ⟨w.heap.size, 3, none⟩ (.int .i64 v)).heap.size := by simp only [World.size_setCell]; exact Nat.le_refl _
            have mx6_0 : ((((u9.setCell ⟨w.heap.size, 0, none⟩ (.int .i64 k)).setCell ⟨w.heap.size, 1, none⟩ (.int .i64 a)).setCell ⟨w.heap.size, 2, none⟩ (.int .i64 cc)).setCell ⟨w.heap.size, 3, none⟩ (.int .i64 v)).cell? ⟨w4.heap.size, 0, none⟩ = some (.int .i64 k) := cell_of_row _ _ 0 _ _ _ rx
            have mx6_1 : ((((u9.setCell ⟨w.heap.size, 0, none⟩ (.int .i64 k)).setCell ⟨w.heap.size, 1, none⟩ (.int .i64 a)).setCell ⟨w.heap.size, 2, none⟩ (.int .i64 cc)).setCell ⟨w.heap.size, 3, none⟩ (.int .i64 v)).cell? ⟨w4.heap.size, 1, none⟩ = some (.int .i64 a) := cell_of_row _ _ 1 _ _ _ rx
            have mx6_2 : ((((u9.setCell ⟨w.heap.size, 0, none⟩ (.int .i64 k)).setCell ⟨w.heap.size, 1, none⟩ (.int .i64 a)).setCell ⟨w.heap.size, 2, none⟩ (.int .i64 cc)).setCell ⟨w.heap.size, 3, none⟩ (.int .i64 v)).cell? ⟨w4.heap.size, 2, none⟩ = some (.int .i64 cc) := cell_of_row _ _ 2 _ _ _ rx
            have mx6_3 : ((((u9.setCell ⟨w.heap.size, 0, none⟩ (.int .i64 k)).setCell ⟨w.heap.size, 1, none⟩ (.int .i64 a)).setCell ⟨w.heap.size, 2, none⟩ (.int .i64 cc)).setCell ⟨w.heap.size, 3, none⟩ (.int .i64 v)).cell? ⟨w4.heap.size, 3, none⟩ = some (.int .i64 v) := cell_of_row _ _ 3 _ _ _ rx
            go_simp
            refine hK.out _ _ ⟨mx6_0, mx6_1, mx6_2, mx6_3⟩ (fun hHeld => ?_)
            clear z10_0 z10_1 z10_2 z10_3 y10_0 y10_1 y10_2 y10_3 mx5_0 mx5_1 mx5_2 mx5_3
            generalize ((((u9.setCell ⟨w.heap.size, 0, none⟩ (.int .i64 k)).setCell ⟨w.heap.size, 1, none⟩ (.int .i64 a)).setCell ⟨w.heap.size, 2, none⟩ (.int .i64 cc)).setCell ⟨w.heap.size, 3, none⟩ (.int .i64 v)) = u10 at *
            clear hK K
            try simp only [Act.put, List.getElem_toArray, List.getElem_cons_zero, List.getElem_cons_succ, List.setIfInBounds_toArray, List.set_cons_zero, List.set_cons_succ]
            refine wpAnyH_ready (rs := [9]) (by kernel_rfl) (by simp) ?_
            refine AllReadyH.cons rfl (fun K hK => ?_) ?_
            · obtain ⟨y, hy, hpk⟩ := pickL (fun x => -1 ≤ x ∧ x ≤ 65) [size, (-1), 65] i (by intro z hz; simp only [List.mem_cons, List.not_mem_nil, or_false] at hz; omega) i0 i1
              have hcw := lit_at rp hpk
              clear hpk
              go_simp
              refine hK.out _ _ ⟨mx6_0, mx6_1, mx6_2, mx6_3⟩ (fun hHeld => ?_)
              clear hK K
              try simp only [Act.put, List.getElem_toArray, List.getElem_cons_zero, List.getElem_cons_succ, List.setIfInBounds_toArray, List.set_cons_zero, List.set_cons_succ]
              refine wpAnyH_take (i := 11) (v := ?_) rfl (by kernel_rfl) (by kernel_rfl) (by kernel_rfl) (fun _ _ _ h => h) (Or.inl ⟨by rfl, ?_⟩) (by assumption) ?_
              rotate_left
              · (intro wz hSw; (try dsimp only at hSw); go_simp; try with_reducible rfl)
              simp only [Act.put, List.getElem_toArray, List.getElem_cons_zero, List.getElem_cons_succ, List.setIfInBounds_toArray, List.set_cons_zero, List.set_cons_succ]
              refine wpAnyH_done (by kernel_rfl) ?_ _
              refine NoPanic.normal ?_
              have ma1_0 : u10.cell? ⟨w.heap.size, 0, none⟩ = some (.int .i64 k) := cell_of_row _ _ 0 _ _ _ ra
              have ma1_1 : u10.cell? ⟨w.heap.size, 1, none⟩ = some (.int .i64 a) := cell_of_row _ _ 1 _ _ _ ra
              have ma1_2 : u10.cell? ⟨w.heap.size, 2, none⟩ = some (.int .i64 cc) := cell_of_row _ _ 2 _ _ _ ra
              have ma1_3 : u10.cell? ⟨w.heap.size, 3, none⟩ = some (.int .i64 v) := cell_of_row _ _ 3 _ _ _ ra
              go_wp2_with fail
              refine bodyPost_ret (v := .tuple #[.agg #[.int .i64 k, .int .i64 a, .int .i64 cc, .int .i64 v], .int .i64 y]) (by simp [results, Try.results8, go_sem, ma1_0, ma1_1, ma1_2, ma1_3]) rfl ?_
              exact ⟨k, a, cc, v, y, rfl, c4, hy, hB⟩
            exact AllReadyH.nil
          exact AllReadyH.nil
        refine AllReadyH.cons rfl (fun K hK => ?_) ?_
        · have z10_0 := frzRow ra 0
          have z10_1 := frzRow ra 1
          have z10_2 := frzRow ra 2
          have z10_3 := frzRow ra 3
          have y10_0 : u9.cell? ⟨w.heap.size, 0, none⟩ = some (.int .i64 0) := cell_of_row _ _ 0 _ _ _ ra
          have y10_1 : u9.cell? ⟨w.heap.size, 1, none⟩ = some (.int .i64 0) := cell_of_row _ _ 1 _ _ _ ra
          have y10_2 : u9.cell? ⟨w.heap.size, 2, none⟩ = some (.int .i64 0) := cell_of_row _ _ 2 _ _ _ ra
          have y10_3 : u9.cell? ⟨w.heap.size, 3, none⟩ = some (.int .i64 0) := cell_of_row _ _ 3 _ _ _ ra
          replace rx := rowSet (rowSet (rowSet (rowSet (rx) ⟨w.heap.size, 0, none⟩ (.int .i64 k) (by show _ ≠ w.heap.size; omega)) ⟨w.heap.size, 1, none⟩ (.int .i64 a) (by show _ ≠ w.heap.size; omega)) ⟨w.heap.size, 2, none⟩ (.int .i64 cc) (by show _ ≠ w.heap.size; omega)) ⟨w.heap.size, 3, none⟩ (.int .i64 v) (by show _ ≠ w.heap.size; omega)
          replace rq := rowSet (rowSet (rowSet (rowSet (rq) ⟨w.heap.size, 0, none⟩ (.int .i64 k) (by show _ ≠ w.heap.size; omega)) ⟨w.heap.size, 1, none⟩ (.int .i64 a) (by show _ ≠ w.heap.size; omega)) ⟨w.heap.size, 2, none⟩ (.int .i64 cc) (by show _ ≠ w.heap.size; omega)) ⟨w.heap.size, 3, none⟩ (.int .i64 v) (by show _ ≠ w.heap.size; omega)
          replace rp := rowSet (rowSet (rowSet (rowSet (rp) ⟨w.heap.size, 0, none⟩ (.int .i64 k) (by show _ ≠ w.heap.size; omega)) ⟨w.heap.size, 1, none⟩ (.int .i64 a) (by show _ ≠ w.heap.size; omega)) ⟨w.heap.size, 2, none⟩ (.int .i64 cc) (by show _ ≠ w.heap.size; omega)) ⟨w.heap.size, 3, none⟩ (.int .i64 v) (by show _ ≠ w.heap.size; omega)
          replace ra := set43 (set42 (set41 (set40 (ra) (.int .i64 k)) (.int .i64 a)) (.int .i64 cc)) (.int .i64 v)
          clear hr
          replace hB := ((((hB).setCell (p := ⟨w.heap.size, 0, none⟩) (by show _ ≤ w.heap.size; omega) (.int .i64 k)).setCell (p := ⟨w.heap.size, 1, none⟩) (by show _ ≤ w.heap.size; omega) (.int .i64 a)).setCell (p := ⟨w.heap.size, 2, none⟩) (by show _ ≤ w.heap.size; omega) (.int .i64 cc)).setCell (p := ⟨w.heap.size, 3, none⟩) (by show _ ≤ w.heap.size; omega) (.int .i64 v)
          have s10 : u9.heap.size ≤ ((((u9.setCell ⟨w.heap.size, 0, none⟩ (.int .i64 k)).setCell ⟨w.heap.size, 1, none⟩ (.int .i64 a)).setCell ⟨w.heap.size, 2, none⟩ (.int .i64 cc)).setCell ⟨w.heap.size, 3, none⟩ (.int .i64 v)).heap.size := by simp only [World.size_setCell]; exact Nat.le_refl _
          have mx6_0 : ((((u9.setCell ⟨w.heap.size, 0, none⟩ (.int .i64 k)).setCell ⟨w.heap.size, 1, none⟩ (.int .i64 a)).setCell ⟨w.heap.size, 2, none⟩ (.int .i64 cc)).setCell ⟨w.heap.size, 3, none⟩ (.int .i64 v)).cell? ⟨w4.heap.size, 0, none⟩ = some (.int .i64 k) := cell_of_row _ _ 0 _ _ _ rx
          have mx6_1 : ((((u9.setCell ⟨w.heap.size, 0, none⟩ (.int .i64 k)).setCell ⟨w.heap.size, 1, none⟩ (.int .i64 a)).setCell ⟨w.heap.size, 2, none⟩ (.int .i64 cc)).setCell ⟨w.heap.size, 3, none⟩ (.int .i64 v)).cell? ⟨w4.heap.size, 1, none⟩ = some (.int .i64 a) := cell_of_row _ _ 1 _ _ _ rx
          have mx6_2 : ((((u9.setCell ⟨w.heap.size, 0, none⟩ (.int .i64 k)).setCell ⟨w.heap.size, 1, none⟩ (.int .i64 a)).setCell ⟨w.heap.size, 2, none⟩ (.int .i64 cc)).setCell ⟨w.heap.size, 3, none⟩ (.int .i64 v)).cell? ⟨w4.heap.size, 2, none⟩ = some (.int .i64 cc) := cell_of_row _ _ 2 _ _ _ rx
          have mx6_3 : ((((u9.setCell ⟨w.heap.size, 0, none⟩ (.int .i64 k)).setCell ⟨w.heap.size, 1, none⟩ (.int .i64 a)).setCell ⟨w.heap.size, 2, none⟩ (.int .i64 cc)).setCell ⟨w.heap.size, 3, none⟩ (.int .i64 v)).cell? ⟨w4.heap.size, 3, none⟩ = some (.int .i64 v) := cell_of_row _ _ 3 _ _ _ rx
          go_simp
          refine hK.out _ _ ⟨mx6_0, mx6_1, mx6_2, mx6_3⟩ (fun hHeld => ?_)
          clear z10_0 z10_1 z10_2 z10_3 y10_0 y10_1 y10_2 y10_3 mx5_0 mx5_1 mx5_2 mx5_3
          generalize ((((u9.setCell ⟨w.heap.size, 0, none⟩ (.int .i64 k)).setCell ⟨w.heap.size, 1, none⟩ (.int .i64 a)).setCell ⟨w.heap.size, 2, none⟩ (.int .i64 cc)).setCell ⟨w.heap.size, 3, none⟩ (.int .i64 v)) = u10 at *
          clear hK K
          try simp only [Act.put, List.getElem_toArray, List.getElem_cons_zero, List.getElem_cons_succ, List.setIfInBounds_toArray, List.set_cons_zero, List.set_cons_succ]
          refine wpAnyH_ready (rs := [7]) (by kernel_rfl) (by simp) ?_
          refine AllReadyH.cons rfl (fun K hK => ?_) ?_
          · obtain ⟨i, hi, hpk⟩ := pickL (fun x => 0 ≤ x ∧ x < 3) [0, 0, 0, 0, 0, 1, 2] j (by decide) j0 j1
            obtain ⟨i0, i1⟩ := hi
            have hcv := lit_at rq hpk
            clear hpk
            go_simp
            refine hK.out _ _ ⟨mx6_0, mx6_1, mx6_2, mx6_3⟩ (fun hHeld => ?_)
            clear hK K
            try simp only [Act.put, List.getElem_toArray, List.getElem_cons_zero, List.getElem_cons_succ, List.setIfInBounds_toArray, List.set_cons_zero, List.set_cons_succ]
            refine wpAnyH_take (i := 8) (v := ?_) rfl (by kernel_rfl) (by kernel_rfl) (by kernel_rfl) (fun _ _ _ h => h) (Or.inl ⟨by rfl, ?_⟩) (by assumption) ?_
            rotate_left
            · (intro wz hSw; (try dsimp only at hSw); go_simp; try with_reducible rfl)
            simp only [Act.put, List.getElem_toArray, List.getElem_cons_zero, List.getElem_cons_succ, List.setIfInBounds_toArray, List.set_cons_zero, List.set_cons_succ]
            refine wpAnyH_ready (rs := [9]) (by kernel_rfl) (by simp) ?_
            refine AllReadyH.cons rfl (fun K hK => ?_) ?_
            · obtain ⟨y, hy, hpk⟩ := pickL (fun x => -1 ≤ x ∧ x ≤ 65) [size, (-1), 65] i (by intro z hz; simp only [List.mem_cons, List.not_mem_nil, or_false] at hz; omega) i0 i1
              have hcw := lit_at rp hpk
              clear hpk
              go_simp
              refine hK.out _ _ ⟨mx6_0, mx6_1, mx6_2, mx6_3⟩ (fun hHeld => ?_)
              clear hK K
              try simp only [Act.put, List.getElem_toArray, List.getElem_cons_zero, List.getElem_cons_succ, List.setIfInBounds_toArray, List.set_cons_zero, List.set_cons_succ]
              refine wpAnyH_take (i := 11) (v := ?_) rfl (by kernel_rfl) (by kernel_rfl) (by kernel_rfl) (fun _ _ _ h => h) (Or.inl ⟨by rfl, ?_⟩) (by assumption) ?_
              rotate_left
              · (intro wz hSw; (try dsimp only at hSw); go_simp; try with_reducible rfl)
              simp only [Act.put, List.getElem_toArray, List.getElem_cons_zero, List.getElem_cons_succ, List.setIfInBounds_toArray, List.set_cons_zero, List.set_cons_succ]
              refine wpAnyH_done (by kernel_rfl) ?_ _
              refine NoPanic.normal ?_
              have ma1_0 : u10.cell? ⟨w.heap.size, 0, none⟩ = some (.int .i64 k) := cell_of_row _ _ 0 _ _ _ ra
              have ma1_1 : u10.cell? ⟨w.heap.size, 1, none⟩ = some (.int .i64 a) := cell_of_row _ _ 1 _ _ _ ra
              have ma1_2 : u10.cell? ⟨w.heap.size, 2, none⟩ = some (.int .i64 cc) := cell_of_row _ _ 2 _ _ _ ra
              have ma1_3 : u10.cell? ⟨w.heap.size, 3, none⟩ = some (.int .i64 v) := cell_of_row _ _ 3 _ _ _ ra
              go_wp2_with fail
              refine bodyPost_ret (v := .tuple #[.agg #[.int .i64 k, .int .i64 a, .int .i64 cc, .int .i64 v], .int .i64 y]) (by simp [results, Try.results8, go_sem, ma1_0, ma1_1, ma1_2, ma1_3]) rfl ?_
              exact ⟨k, a, cc, v, y, rfl, c4, hy, hB⟩
            exact AllReadyH.nil
          exact AllReadyH.nil
        exact AllReadyH.nil
      refine AllReadyH.cons rfl (fun K hK => ?_) ?_
      · obtain ⟨i, hi, hpk⟩ := pickL (fun x => 0 ≤ x ∧ x < 3) [0, 0, 0, 0, 0, 1, 2] j (by decide) j0 j1
        obtain ⟨i0, i1⟩ := hi
        have hcv := lit_at rq hpk
        clear hpk
        go_simp
        refine hK.out _ _ ⟨mx4_0, mx4_1, mx4_2, mx4_3⟩ (fun hHeld => ?_)
        clear hK K
        try simp only [Act.put, List.getElem_toArray, List.getElem_cons_zero, List.getElem_cons_succ, List.setIfInBounds_toArray, List.set_cons_zero, List.set_cons_succ]
        refine wpAnyH_ready (rs := [2, 10]) (by kernel_rfl) (by simp) ?_
        refine AllReadyH.cons rfl (fun K hK => ?_) ?_
        · have hn9 := below_new w8 (.cells #[.int .i64 size, .int .i64 (-1), .int .i64 65] 3)
          replace ra := rowKeep ra hn9
          replace rx := rowKeep rx hn9
          replace rq := rowKeep rq hn9
          replace hr := hr.below hn9
          replace hB := below_later hB hn9 (by omega)
          have mx5_0 : (w8.alloc (.cells #[.int .i64 size, .int .i64 (-1), .int .i64 65] 3)).cell? ⟨w4.heap.size, 0, none⟩ = some (.int .i64 k) := cell_of_row _ _ 0 _ _ _ rx
          have mx5_1 : (w8.alloc (.cells #[.int .i64 size, .int .i64 (-1), .int .i64 65] 3)).cell? ⟨w4.heap.size, 1, none⟩ = some (.int .i64 a) := cell_of_row _ _ 1 _ _ _ rx
          have mx5_2 : (w8.alloc (.cells #[.int .i64 size, .int .i64 (-1), .int .i64 65] 3)).cell? ⟨w4.heap.size, 2, none⟩ = some (.int .i64 cc) := cell_of_row _ _ 2 _ _ _ rx
          have mx5_3 : (w8.alloc (.cells #[.int .i64 size, .int .i64 (-1), .int .i64 65] 3)).cell? ⟨w4.heap.size, 3, none⟩ = some (.int .i64 v) := cell_of_row _ _ 3 _ _ _ rx
          clear hn9
          have s9 : w8.heap.size < (w8.alloc (.cells #[.int .i64 size, .int .i64 (-1), .int .i64 65] 3)).heap.size := Nat.lt_of_lt_of_eq (Nat.lt_succ_self _) (World.size_alloc _ _).symm
          have rp : (w8.alloc (.cells #[.int .i64 size, .int .i64 (-1), .int .i64 65] 3)).heap[w8.heap.size]? = some (.cells #[.int .i64 size, .int .i64 (-1), .int .i64 65] 3 (0, 0)) := by have q := heap_alloc_new w8 (.cells #[.int .i64 size, .int .i64 (-1), .int .i64 65] 3); (try simp only [World.size_alloc, World.size_setCell] at q); exact q
          go_simp
          refine hK.out _ _ ⟨mx5_0, mx5_1, mx5_2, mx5_3⟩ (fun hHeld => ?_)
          clear mx4_0 mx4_1 mx4_2 mx4_3
          generalize (w8.alloc (.cells #[.int .i64 size, .int .i64 (-1), .int .i64 65] 3)) = u9 at *
          clear hK K
          try simp only [Act.put, List.getElem_toArray, List.getElem_cons_zero, List.getElem_cons_succ, List.setIfInBounds_toArray, List.set_cons_zero, List.set_cons_succ]
          refine wpAnyH_take (i := 8) (v := ?_) rfl (by kernel_rfl) (by kernel_rfl) (by kernel_rfl) (fun _ _ _ h => h) (Or.inl ⟨by rfl, ?_⟩) (by assumption) ?_
          rotate_left
          · (intro wz hSw; (try dsimp only at hSw); go_simp; try with_reducible rfl)
          simp only [Act.put, List.getElem_toArray, List.getElem_cons_zero, List.getElem_cons_succ, List.setIfInBounds_toArray, List.set_cons_zero, List.set_cons_succ]
          refine wpAnyH_ready (rs := [9, 10]) (by kernel_rfl) (by simp) ?_
          refine AllReadyH.cons rfl (fun K hK => ?_) ?_
          · obtain ⟨y, hy, hpk⟩ := pickL (fun x => -1 ≤ x ∧ x ≤ 65) [size, (-1), 65] i (by intro z hz; simp only [List.mem_cons, List.not_mem_nil, or_false] at hz; omega) i0 i1
            have hcw := lit_at rp hpk
            clear hpk
            go_simp
            refine hK.out _ _ ⟨mx5_0, mx5_1, mx5_2, mx5_3⟩ (fun hHeld => ?_)
            clear hK K
            try simp only [Act.put, List.getElem_toArray, List.getElem_cons_zero, List.getElem_cons_succ, List.setIfInBounds_toArray, List.set_cons_zero, List.set_cons_succ]
            refine wpAnyH_ready (rs := [10]) (by kernel_rfl) (by simp) ?_
            refine AllReadyH.cons rfl (fun K hK => ?_) ?_
            · have z10_0 := frzRow ra 0
              have z10_1 := frzRow ra 1
              have z10_2 := frzRow ra 2
              have z10_3 := frzRow ra 3
              have y10_0 : u9.cell? ⟨w.heap.size, 0, none⟩ = some (.int .i64 0) := cell_of_row _ _ 0 _ _ _ ra
              have y10_1 : u9.cell? ⟨w.heap.size, 1, none⟩ = some (.int .i64 0) := cell_of_row _ _ 1 _ _ _ ra
              have y10_2 : u9.cell? ⟨w.heap.size, 2, none⟩ = some (.int .i64 0) := cell_of_row _ _ 2 _ _ _ ra
              have y10_3 : u9.cell? ⟨w.heap.size, 3, none⟩ = some (.int .i64 0) := cell_of_row _ _ 3 _ _ _ ra
              replace rx := rowSet (rowSet (rowSet (rowSet (rx) ⟨w.heap.size, 0, none⟩ (.int .i64 k) (by show _ ≠ w.heap.size; omega)) ⟨w.heap.size, 1, none⟩ (.int .i64 a) (by show _ ≠ w.heap.size; omega)) ⟨w.heap.size, 2, none⟩ (.int .i64 cc) (by show _ ≠ w.heap.size; omega)) ⟨w.heap.size, 3, none⟩ (.int .i64 v) (by show _ ≠ w.heap.size; omega)
              replace rq := rowSet (rowSet (rowSet (rowSet (rq) ⟨w.heap.size, 0, none⟩ (.int .i64 k) (by show _ ≠ w.heap.size; omega)) ⟨w.heap.size, 1, none⟩ (.int .i64 a) (by show _ ≠ w.heap.size; omega)) ⟨w.heap.size, 2, none⟩ (.int .i64 cc) (by show _ ≠ w.heap.size; omega)) ⟨w.heap.size, 3, none⟩ (.int .i64 v) (by show _ ≠ w.heap.size; omega)
              replace rp := rowSet (rowSet (rowSet (rowSet (rp) ⟨w.heap.size, 0, none⟩ (.int .i64 k) (by show _ ≠ w.heap.size; omega)) ⟨w.heap.size, 1, none⟩ (.int .i64 a) (by show _ ≠ w.heap.size; omega)) ⟨w.heap.size, 2, none⟩ (.int .i64 cc) (by show _ ≠ w.heap.size; omega)) ⟨w.heap.size, 3, none⟩ (.int .i64 v) (by show _ ≠ w.heap.size; omega)
              replace ra := set43 (set42 (set41 (set40 (ra) (.int .i64 k)) (.int .i64 a)) (.int .i64 cc)) (.int .i64 v)
              clear hr
              replace hB := ((((hB).setCell (p := ⟨w.heap.size, 0, none⟩) (by show _ ≤ w.heap.size; omega) (.int .i64 k)).setCell (p := ⟨w.heap.size, 1, none⟩) (by show _ ≤ w.heap.size; omega) (.int .i64 a)).setCell (p := ⟨w.heap.size, 2, none⟩) (by show _ ≤ w.heap.size; omega) (.int .i64 cc)).setCell (p := ⟨w.heap.size, 3, none⟩) (by show _ ≤ w.heap.size; omega) (.int .i64 v)
              have s10 : u9.heap.size ≤ ((((u9.setCell ⟨w.heap.size, 0, none⟩ (.int .i64 k)).setCell ⟨w.heap.size, 1, none⟩ (.int .i64 a)).setCell ⟨w.heap.size, 2, none⟩ (.int .i64 cc)).setCell ⟨w.heap.size, 3, none⟩ (.int .i64 v)).heap.size := by simp only [World.size_setCell]; exact Nat.le_refl _
              have mx6_0 : ((((u9.setCell ⟨w.heap.size, 0, none⟩ (.int .i64 k)).setCell ⟨w.heap.size, 1, none⟩ (.int .i64 a)).setCell ⟨w.heap.size, 2, none⟩ (.int .i64 cc)).setCell ⟨w.heap.size, 3, none⟩ (.int .i64 v)).cell? ⟨w4.heap.size, 0, none⟩ = some (.int .i64 k) := cell_of_row _ _ 0 _ _ _ rx
              have mx6_1 : ((((u9.setCell ⟨w.heap.size, 0, none⟩ (.int .i64 k)).setCell ⟨w.heap.size, 1, none⟩ (.int .i64 a)).setCell ⟨w.heap.size, 2, none⟩ (.int .i64 cc)).setCell ⟨w.heap.size, 3, none⟩ (.int .i64 v)).cell? ⟨w4.heap.size, 1, none⟩ = some (.int .i64 a) := cell_of_row _ _ 1 _ _ _ rx
              have mx6_2 : ((((u9.setCell ⟨w.heap.size, 0, none⟩ (.int .i64 k)).setCell ⟨w.heap.size, 1, none⟩ (.int .i64 a)).setCell ⟨w.heap.size, 2, none⟩ (.int .i64 cc)).setCell ⟨w.heap.size, 3, none⟩ (.int .i64 v)).cell? ⟨w4.heap.size, 2, none⟩ = some (.int .i64 cc) := cell_of_row _ _ 2 _ _ _ rx
              have mx6_3 : ((((u9.setCell ⟨w.heap.size, 0, none⟩ (.int .i64 k)).setCell ⟨w.heap.size, 1, none⟩ (.int .i64 a)).setCell ⟨w.heap.size, 2, none⟩ (.int .i64 cc)).setCell ⟨w.heap.size, 3, none⟩ (.int .i64 v)).cell? ⟨w4.heap.size, 3, none⟩ = some (.int .i64 v) := cell_of_row _ _ 3 _ _ _ rx
              go_simp
              refine hK.out _ _ ⟨mx6_0, mx6_1, mx6_2, mx6_3⟩ (fun hHeld => ?_)
              clear z10_0 z10_1 z10_2 z10_3 y10_0 y10_1 y10_2 y10_3 mx5_0 mx5_1 mx5_2 mx5_3
              generalize ((((u9.setCell ⟨w.heap.size, 0, none⟩ (.int .i64 k)).setCell ⟨w.heap.size, 1, none⟩ (.int .i64 a)).setCell ⟨w.heap.size, 2, none⟩ (.int .i64 cc)).setCell ⟨w.heap.size, 3, none⟩ (.int .i64 v)) = u10 at *
              clear hK K
              try simp only [Act.put, List.getElem_toArray, List.getElem_cons_zero, List.getElem_cons_succ, List.setIfInBounds_toArray, List.set_cons_zero, List.set_cons_succ]
              refine wpAnyH_take (i := 11) (v := ?_) rfl (by kernel_rfl) (by kernel_rfl) (by kernel_rfl) (fun _ _ _ h => h) (Or.inl ⟨by rfl, ?_⟩) (by assumption) ?_
              rotate_left
              · (intro wz hSw; (try dsimp only at hSw); go_simp; try with_reducible rfl)
              simp only [Act.put, List.getElem_toArray, List.getElem_cons_zero, List.getElem_cons_succ, List.setIfInBounds_toArray, List.set_cons_zero, List.set_cons_succ]
              refine wpAnyH_done (by kernel_rfl) ?_ _
              refine NoPanic.normal ?_
              have ma1_0 : u10.cell? ⟨w.heap.size, 0, none⟩ = some (.int .i64 k) := cell_of_row _ _ 0 _ _ _ ra
              have ma1_1 : u10.cell? ⟨w.heap.size, 1, none⟩ = some (.int .i64 a) := cell_of_row _ _ 1 _ _ _ ra
              have ma1_2 : u10.cell? ⟨w.heap.size, 2, none⟩ = some (.int .i64 cc) := cell_of_row _ _ 2 _ _ _ ra
              have ma1_3 : u10.cell? ⟨w.heap.size, 3, none⟩ = some (.int .i64 v) := cell_of_row _ _ 3 _ _ _ ra
              go_wp2_with fail
              refine bodyPost_ret (v := .tuple #[.agg #[.int .i64 k, .int .i64 a, .int .i64 cc, .int .i64 v], .int .i64 y]) (by simp [results, Try.results8, go_sem, ma1_0, ma1_1, ma1_2, ma1_3]) rfl ?_
              exact ⟨k, a, cc, v, y, rfl, c4, hy, hB⟩
            exact AllReadyH.nil
          refine AllReadyH.cons rfl (fun K hK => ?_) ?_
          · have z10_0 := frzRow ra 0
            have z10_1 := frzRow ra 1
            have z10_2 := frzRow ra 2
            have z10_3 := frzRow ra 3
            have y10_0 : u9.cell? ⟨w.heap.size, 0, none⟩ = some (.int .i64 0) := cell_of_row _ _ 0 _ _ _ ra
            have y10_1 : u9.cell? ⟨w.heap.size, 1, none⟩ = some (.int .i64 0) := cell_of_row _ _ 1 _ _ _ ra
            have y10_2 : u9.cell? ⟨w.heap.size, 2, none⟩ = some (.int .i64 0) := cell_of_row _ _ 2 _ _ _ ra
            have y10_3 : u9.cell? ⟨w.heap.size, 3, none⟩ = some (.int .i64 0) := cell_of_row _ _ 3 _ _ _ ra
            replace rx := rowSet (rowSet (rowSet (rowSet (rx) ⟨w.heap.size, 0, none⟩ (.int .i64 k) (by show _ ≠ w.heap.size; omega)) ⟨w.heap.size, 1, none⟩ (.int .i64 a) (by show _ ≠ w.heap.size; omega)) ⟨w.heap.size, 2, none⟩ (.int .i64 cc) (by show _ ≠ w.heap.size; omega)) ⟨w.heap.size, 3, none⟩ (.int .i64 v) (by show _ ≠ w.heap.size; omega)
            replace rq := rowSet (rowSet (rowSet (rowSet (rq) ⟨w.heap.size, 0, none⟩ (.int .i64 k) (by show _ ≠ w.heap.size; omega)) ⟨w.heap.size, 1, none⟩ (.int .i64 a) (by show _ ≠ w.heap.size; omega)) ⟨w.heap.size, 2, none⟩ (.int .i64 cc) (by show _ ≠ w.heap.size; omega)) ⟨w.heap.size, 3, none⟩ (.int .i64 v) (by show _ ≠ w.heap.size; omega)
            replace rp := rowSet (rowSet (rowSet (rowSet (rp) ⟨w.heap.size, 0, none⟩ (.int .i64 k) (by show _ ≠ w.heap.size; omega)) ⟨w.heap.size, 1, none⟩ (.int .i64 a) (by show _ ≠ w.heap.size; omega)) ⟨w.heap.size, 2, none⟩ (.int .i64 cc) (by show _ ≠ w.heap.size; omega)) ⟨w.heap.size, 3, none⟩ (.int .i64 v) (by show _ ≠ w.heap.size; omega)
            replace ra := set43 (set42 (set41 (set40 (ra) (.int .i64 k)) (.int .i64 a)) (.int .i64 cc)) (.int .i64 v)
            clear hr
            replace hB := ((((hB).setCell (p := ⟨w.heap.size, 0, none⟩) (by show _ ≤ w.heap.size; omega) (.int .i64 k)).setCell (p := ⟨w.heap.size, 1, none⟩) (by show _ ≤ w.heap.size; omega) (.int .i64 a)).setCell (p := ⟨w.heap.size, 2, none⟩) (by show _ ≤ w.heap.size; omega) (.int .i64 cc)).setCell (p := ⟨w.heap.size, 3, none⟩) (by show _ ≤ w.heap.size; omega) (.int .i64 v)
            have s10 : u9.heap.size ≤ ((((u9.setCell ⟨w.heap.size, 0, none⟩ (.int .i64 k)).setCell ⟨w.heap.size, 1, none⟩ (.int .i64 a)).setCell ⟨w.heap.size, 2, none⟩ (.int .i64 cc)).setCell ⟨w.heap.size, 3, none⟩ (.int .i64 v)).heap.size := by simp only [World.size_setCell]; exact Nat.le_refl _
            have mx6_0 : ((((u9.setCell ⟨w.heap.size, 0, none⟩ (.int .i64 k)).setCell ⟨w.heap.size, 1, none⟩ (.int .i64 a)).setCell ⟨w.heap.size, 2, none⟩ (.int .i64 cc)).setCell ⟨w.heap.size, 3, none⟩ (.int .i64 v)).cell? ⟨w4.heap.size, 0, none⟩ = some (.int .i64 k) := cell_of_row _ _ 0 _ _ _ rx
            have mx6_1 : ((((u9.setCell ⟨w.heap.size, 0, none⟩ (.int .i64 k)).setCell ⟨w.heap.size, 1, none⟩ (.int .i64 a)).setCell ⟨w.heap.size, 2, none⟩ (.int .i64 cc)).setCell ⟨w.heap.size, 3, none⟩ (.int .i64 v)).cell? ⟨w4.heap.size, 1, none⟩ = some (.int .i64 a) := cell_of_row _ _ 1 _ _ _ rx
            have mx6_2 : ((((u9.setCell ⟨w.heap.size, 0, none⟩ (.int .i64 k)).setCell ⟨w.heap.size, 1, none⟩ (.int .i64 a)).setCell ⟨w.heap.size, 2, none⟩ (.int .i64 cc)).setCell ⟨w.heap.size, 3, none⟩ (.int .i64 v)).cell? ⟨w4.heap.size, 2, none⟩ = some (.int .i64 cc) := cell_of_row _ _ 2 _ _ _ rx
            have mx6_3 : ((((u9.setCell ⟨w.heap.size, 0, none⟩ (.int .i64 k)).setCell ⟨w.heap.size, 1, none⟩ (.int .i64 a)).setCell ⟨w.heap.size, 2, none⟩ (.int .i64 cc)).setCell ⟨w.heap.size, 3, none⟩ (.int .i64 v)).cell? ⟨w4.heap.size, 3, none⟩ = some (.int .i64 v) := cell_of_row _ _ 3 _ _ _ rx
            go_simp
            refine hK.out _ _ ⟨mx6_0, mx6_1, mx6_2, mx6_3⟩ (fun hHeld => ?_)
            clear z10_0 z10_1 z10_2 z10_3 y10_0 y10_1 y10_2 y10_3 mx5_0 mx5_1 mx5_2 mx5_3
            generalize ((((u9.setCell ⟨w.heap.size, 0, none⟩ (.int .i64 k)).setCell ⟨w.heap.size, 1, none⟩ (.int .i64 a)).setCell ⟨w.heap.size, 2, none⟩ (.int .i64 cc)).setCell ⟨w.heap.size, 3, none⟩ (.int .i64 v)) = u10 at *
            clear hK K
            try simp only [Act.put, List.getElem_toArray, List.getElem_cons_zero, List.getElem_cons_succ, List.setIfInBounds_toArray, List.set_cons_zero, List.set_cons_succ]
            refine wpAnyH_ready (rs := [9]) (by kernel_rfl) (by simp) ?_
            refine AllReadyH.cons rfl (fun K hK => ?_) ?_
            · obtain ⟨y, hy, hpk⟩ := pickL (fun x => -1 ≤ x ∧ x ≤ 65) [size, (-1), 65] i (by intro z hz; simp only [List.mem_cons, List.not_mem_nil, or_false] at hz; omega) i0 i1
              have hcw := lit_at rp hpk
              clear hpk
              go_simp
              refine hK.out _ _ ⟨mx6_0, mx6_1, mx6_2, mx6_3⟩ (fun hHeld => ?_)
              clear hK K
              try simp only [Act.put, List.getElem_toArray, List.getElem_cons_zero, List.getElem_cons_succ, List.setIfInBounds_toArray, List.set_cons_zero, List.set_cons_succ]
              refine wpAnyH_take (i := 11) (v := ?_) rfl (by kernel_rfl) (by kernel_rfl) (by kernel_rfl) (fun _ _ _ h => h) (Or.inl ⟨by rfl, ?_⟩) (by assumption) ?_
              rotate_left
              · (intro wz hSw; (try dsimp only at hSw); go_simp; try with_reducible rfl)
              simp only [Act.put, List.getElem_toArray, List.getElem_cons_zero, List.getElem_cons_succ, List.setIfInBounds_toArray, List.set_cons_zero, List.set_cons_succ]
              refine wpAnyH_done (by kernel_rfl) ?_ _
              refine NoPanic.normal ?_
              have ma1_0 : u10.cell? ⟨w.heap.size, 0, none⟩ = some (.int .i64 k) := cell_of_row _ _ 0 _ _ _ ra
              have ma1_1 : u10.cell? ⟨w.heap.size, 1, none⟩ = some (.int .i64 a) := cell_of_row _ _ 1 _ _ _ ra
              have ma1_2 : u10.cell? ⟨w.heap.size, 2, none⟩ = some (.int .i64 cc) := cell_of_row _ _ 2 _ _ _ ra
              have ma1_3 : u10.cell? ⟨w.heap.size, 3, none⟩ = some (.int .i64 v) := cell_of_row _ _ 3 _ _ _ ra
              go_wp2_with fail
              refine bodyPost_ret (v := .tuple #[.agg #[.int .i64 k, .int .i64 a, .int .i64 cc, .int .i64 v], .int .i64 y]) (by simp [results, Try.results8, go_sem, ma1_0, ma1_1, ma1_2, ma1_3]) rfl ?_
              exact ⟨k, a, cc, v, y, rfl, c4, hy, hB⟩
            exact AllReadyH.nil
          exact AllReadyH.nil
        refine AllReadyH.cons rfl (fun K hK => ?_) ?_
        · have z9_0 := frzRow ra 0
          have z9_1 := frzRow ra 1
          have z9_2 := frzRow ra 2
          have z9_3 := frzRow ra 3
          have y9_0 : w8.cell? ⟨w.heap.size, 0, none⟩ = some (.int .i64 0) := cell_of_row _ _ 0 _ _ _ ra
          have y9_1 : w8.cell? ⟨w.heap.size, 1, none⟩ = some (.int .i64 0) := cell_of_row _ _ 1 _ _ _ ra
          have y9_2 : w8.cell? ⟨w.heap.size, 2, none⟩ = some (.int .i64 0) := cell_of_row _ _ 2 _ _ _ ra
          have y9_3 : w8.cell? ⟨w.heap.size, 3, none⟩ = some (.int .i64 0) := cell_of_row _ _ 3 _ _ _ ra
          replace rx := rowSet (rowSet (rowSet (rowSet (rx) ⟨w.heap.size, 0, none⟩ (.int .i64 k) (by show _ ≠ w.heap.size; omega)) ⟨w.heap.size, 1, none⟩ (.int .i64 a) (by show _ ≠ w.heap.size; omega)) ⟨w.heap.size, 2, none⟩ (.int .i64 cc) (by show _ ≠ w.heap.size; omega)) ⟨w.heap.size, 3, none⟩ (.int .i64 v) (by show _ ≠ w.heap.size; omega)
          replace rq := rowSet (rowSet (rowSet (rowSet (rq) ⟨w.heap.size, 0, none⟩ (.int .i64 k) (by show _ ≠ w.heap.size; omega)) ⟨w.heap.size, 1, none⟩ (.int .i64 a) (by show _ ≠ w.heap.size; omega)) ⟨w.heap.size, 2, none⟩ (.int .i64 cc) (by show _ ≠ w.heap.size; omega)) ⟨w.heap.size, 3, none⟩ (.int .i64 v) (by show _ ≠ w.heap.size; omega)
          replace ra := set43 (set42 (set41 (set40 (ra) (.int .i64 k)) (.int .i64 a)) (.int .i64 cc)) (.int .i64 v)
          clear hr
          replace hB := ((((hB).setCell (p := ⟨w.heap.size, 0, none⟩) (by show _ ≤ w.heap.size; omega) (.int .i64 k)).setCell (p := ⟨w.heap.size, 1, none⟩) (by show _ ≤ w.heap.size; omega) (.int .i64 a)).setCell (p := ⟨w.heap.size, 2, none⟩) (by show _ ≤ w.heap.size; omega) (.int .i64 cc)).setCell (p := ⟨w.heap.size, 3, none⟩) (by show _ ≤ w.heap.size; omega) (.int .i64 v)
          have s9 : w8.heap.size ≤ ((((w8.setCell ⟨w.heap.size, 0, none⟩ (.int .i64 k)).setCell ⟨w.heap.size, 1, none⟩ (.int .i64 a)).setCell ⟨w.heap.size, 2, none⟩ (.int .i64 cc)).setCell ⟨w.heap.size, 3, none⟩ (.int .i64 v)).heap.size := by simp only [World.size_setCell]; exact Nat.le_refl _
          have mx5_0 : ((((w8.setCell ⟨w.heap.size, 0, none⟩ (.int .i64 k)).setCell ⟨w.heap.size, 1, none⟩ (.int .i64 a)).setCell ⟨w.heap.size, 2, none⟩ (.int .i64 cc)).setCell ⟨w.heap.size, 3, none⟩ (.int .i64 v)).cell? ⟨w4.heap.size, 0, none⟩ = some (.int .i64 k) := cell_of_row _ _ 0 _ _ _ rx
          have mx5_1 : ((((w8.setCell ⟨w.heap.size, 0, none⟩ (.int .i64 k)).setCell ⟨w.heap.size, 1, none⟩ (.int .i64 a)).setCell ⟨w.heap.size, 2, none⟩ (.int .i64 cc)).setCell ⟨w.heap.size, 3, none⟩ (.int .i64 v)).cell? ⟨w4.heap.size, 1, none⟩ = some (.int .i64 a) := cell_of_row _ _ 1 _ _ _ rx
          have mx5_2 : ((((w8.setCell ⟨w.heap.size, 0, none⟩ (.int .i64 k)).setCell ⟨w.heap.size, 1, none⟩ (.int .i64 a)).setCell ⟨w.heap.size, 2, none⟩ (.int .i64 cc)).setCell ⟨w.heap.size, 3, none⟩ (.int .i64 v)).cell? ⟨w4.heap.size, 2, none⟩ = some (.int .i64 cc) := cell_of_row _ _ 2 _ _ _ rx
          have mx5_3 : ((((w8.setCell ⟨w.heap.size, 0, none⟩ (.int .i64 k)).setCell ⟨w.heap.size, 1, none⟩ (.int .i64 a)).setCell ⟨w.heap.size, 2, none⟩ (.int .i64 cc)).setCell ⟨w.heap.size, 3, none⟩ (.int .i64 v)).cell? ⟨w4.heap.size, 3, none⟩ = some (.int .i64 v) := cell_of_row _ _ 3 _ _ _ rx
          go_simp
          refine hK.out _ _ ⟨mx5_0, mx5_1, mx5_2, mx5_3⟩ (fun hHeld => ?_)
          clear z9_0 z9_1 z9_2 z9_3 y9_0 y9_1 y9_2 y9_3 mx4_0 mx4_1 mx4_2 mx4_3
          generalize ((((w8.setCell ⟨w.heap.size, 0, none⟩ (.int .i64 k)).setCell ⟨w.heap.size, 1, none⟩ (.int .i64 a)).setCell ⟨w.heap.size, 2, none⟩ (.int .i64 cc)).setCell ⟨w.heap.size, 3, none⟩ (.int .i64 v)) = u9 at *
          clear hK K
          try simp only [Act.put, List.getElem_toArray, List.getElem_cons_zero, List.getElem_cons_succ, List.setIfInBounds_toArray, List.set_cons_zero, List.set_cons_succ]
          refine wpAnyH_ready (rs := [2]) (by kernel_rfl) (by simp) ?_
          refine AllReadyH.cons rfl (fun K hK => ?_) ?_
          · have hn10 := below_new u9 (.cells #[.int .i64 size, .int .i64 (-1), .int .i64 65] 3)
            replace ra := rowKeep ra hn10
            replace rx := rowKeep rx hn10
            replace rq := rowKeep rq hn10
            replace hB := below_later hB hn10 (by omega)
            have mx6_0 : (u9.alloc (.cells #[.int .i64 size, .int .i64 (-1), .int .i64 65] 3)).cell? ⟨w4.heap.size, 0, none⟩ = some (.int .i64 k) := cell_of_row _ _ 0 _ _ _ rx
            have mx6_1 : (u9.alloc (.cells #[.int .i64 size, .int .i64 (-1), .int .i64 65] 3)).cell? ⟨w4.heap.size, 1, none⟩ = some (.int .i64 a) := cell_of_row _ _ 1 _ _ _ rx
            have mx6_2 : (u9.alloc (.cells #[.int .i64 size, .int .i64 (-1), .int .i64 65] 3)).cell? ⟨w4.heap.size, 2, none⟩ = some (.int .i64 cc) := cell_of_row _ _ 2 _ _ _ rx
            have mx6_3 : (u9.alloc (.cells #[.int .i64 size, .int .i64 (-1), .int .i64 65] 3)).cell? ⟨w4.heap.size, 3, none⟩ = some (.int .i64 v) := cell_of_row _ _ 3 _ _ _ rx
            clear hn10
            have s10 : u9.heap.size < (u9.alloc (.cells #[.int .i64 size, .int .i64 (-1), .int .i64 65] 3)).heap.size := Nat.lt_of_lt_of_eq (Nat.lt_succ_self _) (World.size_alloc _ _).symm
            have rp : (u9.alloc (.cells #[.int .i64 size, .int .i64 (-1), .int .i64 65] 3)).heap[u9.heap.size]? = some (.cells #[.int .i64 size, .int .i64 (-1), .int .i64 65] 3 (0, 0)) := by have q := heap_alloc_new u9 (.cells #[.int .i64 size, .int .i64 (-1), .int .i64 65] 3); (try simp only [World.size_alloc, World.size_setCell] at q); exact q
            go_simp
            refine hK.out _ _ ⟨mx6_0, mx6_1, mx6_2, mx6_3⟩ (fun hHeld => ?_)
            clear mx5_0 mx5_1 mx5_2 mx5_3
            generalize (u9.alloc (.cells #[.int .i64 size, .int .i64 (-1), .int .i64 65] 3)) = u10 at *
            clear hK K
            try simp only [Act.put, List.getElem_toArray, List.getElem_cons_zero, List.getElem_cons_succ, List.setIfInBounds_toArray, List.set_cons_zero, List.set_cons_succ]
            refine wpAnyH_take (i := 8) (v := ?_) rfl (by kernel_rfl) (by kernel_rfl) (by kernel_rfl) (fun _ _ _ h => h) (Or.inl ⟨by rfl, ?_⟩) (by assumption) ?_
            rotate_left
            · (intro wz hSw; (try dsimp only at hSw); go_simp; try with_reducible rfl)
            simp only [Act.put, List.getElem_toArray, List.getElem_cons_zero, List.getElem_cons_succ, List.setIfInBounds_toArray, List.set_cons_zero, List.set_cons_succ]
            refine wpAnyH_ready (rs := [9]) (by kernel_rfl) (by simp) ?_
            refine AllReadyH.cons rfl (fun K hK => ?_) ?_
            · obtain ⟨y, hy, hpk⟩ := pickL (fun x => -1 ≤ x ∧ x ≤ 65) [size, (-1), 65] i (by intro z hz; simp only [List.mem_cons, List.not_mem_nil, or_false] at hz; omega) i0 i1
              have hcw := lit_at rp hpk
              clear hpk
              go_simp
              refine hK.out _ _ ⟨mx6_0, mx6_1, mx6_2, mx6_3⟩ (fun hHeld => ?_)
              clear hK K
              try simp only [Act.put, List.getElem_toArray, List.getElem_cons_zero, List.getElem_cons_succ, List.setIfInBounds_toArray, List.set_cons_zero, List.set_cons_succ]
              refine wpAnyH_take (i := 11) (v := ?_) rfl (by kernel_rfl) (by kernel_rfl) (by kernel_rfl) (fun _ _ _ h => h) (Or.inl ⟨by rfl, ?_⟩) (by assumption) ?_
              rotate_left
              · (intro wz hSw; (try dsimp only at hSw); go_simp; try with_reducible rfl)
              simp only [Act.put, List.getElem_toArray, List.getElem_cons_zero, List.getElem_cons_succ, List.setIfInBounds_toArray, List.set_cons_zero, List.set_cons_succ]
              refine wpAnyH_done (by kernel_rfl) ?_ _
              refine NoPanic.normal ?_
              have ma1_0 : u10.cell? ⟨w.heap.size, 0, none⟩ = some (.int .i64 k) := cell_of_row _ _ 0 _ _ _ ra
              have ma1_1 : u10.cell? ⟨w.heap.size, 1, none⟩ = some (.int .i64 a) := cell_of_row _ _ 1 _ _ _ ra
              have ma1_2 : u10.cell? ⟨w.heap.size, 2, none⟩ = some (.int .i64 cc) := cell_of_row _ _ 2 _ _ _ ra
              have ma1_3 : u10.cell? ⟨w.heap.size, 3, none⟩ = some (.int .i64 v) := cell_of_row _ _ 3 _ _ _ ra
              go_wp2_with fail
              refine bodyPost_ret (v := .tuple #[.agg #[.int .i64 k, .int .i64 a, .int .i64 cc, .int .i64 v], .int .i64 y]) (by simp [results, Try.results8, go_sem, ma1_0, ma1_1, ma1_2, ma1_3]) rfl ?_
              exact ⟨k, a, cc, v, y, rfl, c4, hy, hB⟩
            exact AllReadyH.nil
          exact AllReadyH.nil
        exact AllReadyH.nil
      refine AllReadyH.cons rfl (fun K hK => ?_) ?_
      · have z9_0 := frzRow ra 0
        have z9_1 := frzRow ra 1
        have z9_2 := frzRow ra 2
        have z9_3 := frzRow ra 3
        have y9_0 : w8.cell? ⟨w.heap.size, 0, none⟩ = some (.int .i64 0) := cell_of_row _ _ 0 _ _ _ ra
        have y9_1 : w8.cell? ⟨w.heap.size, 1, none⟩ = some (.int .i64 0) := cell_of_row _ _ 1 _ _ _ ra
        have y9_2 : w8.cell? ⟨w.heap.size, 2, none⟩ = some (.int .i64 0) := cell_of_row _ _ 2 _ _ _ ra
        have y9_3 : w8.cell? ⟨w.heap.size, 3, none⟩ = some (.int .i64 0) := cell_of_row _ _ 3 _ _ _ ra
        replace rx := rowSet (rowSet (rowSet (rowSet (rx) ⟨w.heap.size, 0, none⟩ (.int .i64 k) (by show _ ≠ w.heap.size; omega)) ⟨w.heap.size, 1, none⟩ (.int .i64 a) (by show _ ≠ w.heap.size; omega)) ⟨w.heap.size, 2, none⟩ (.int .i64 cc) (by show _ ≠ w.heap.size; omega)) ⟨w.heap.size, 3, none⟩ (.int .i64 v) (by show _ ≠ w.heap.size; omega)
        replace rq := rowSet (rowSet (rowSet (rowSet (rq) ⟨w.heap.size, 0, none⟩ (.int .i64 k) (by show _ ≠ w.heap.size; omega)) ⟨w.heap.size, 1, none⟩ (.int .i64 a) (by show _ ≠ w.heap.size; omega)) ⟨w.heap.size, 2, none⟩ (.int .i64 cc) (by show _ ≠ w.heap.size; omega)) ⟨w.heap.size, 3, none⟩ (.int .i64 v) (by show _ ≠ w.heap.size; omega)
        replace ra := set43 (set42 (set41 (set40 (ra) (.int .i64 k)) (.int .i64 a)) (.int .i64 cc)) (.int .i64 v)
        clear hr
        replace hB := ((((hB).setCell (p := ⟨w.heap.size, 0, none⟩) (by show _ ≤ w.heap.size; omega) (.int .i64 k)).setCell (p := ⟨w.heap.size, 1, none⟩) (by show _ ≤ w.heap.size; omega) (.int .i64 a)).setCell (p := ⟨w.heap.size, 2, none⟩) (by show _ ≤ w.heap.size; omega) (.int .i64 cc)).setCell (p := ⟨w.heap.size, 3, none⟩) (by show _ ≤ w.heap.size; omega) (.int .i64 v)
        have s9 : w8.heap.size ≤ ((((w8.setCell ⟨w.heap.size, 0, none⟩ (.int .i64 k)).setCell ⟨w.heap.size, 1, none⟩ (.int .i64 a)).setCell ⟨w.heap.size, 2, none⟩ (.int .i64 cc)).setCell ⟨w.heap.size, 3, none⟩ (.int .i64 v)).heap.size := by simp only [World.size_setCell]; exact Nat.le_refl _
        have mx5_0 : ((((w8.setCell ⟨w.heap.size, 0, none⟩ (.int .i64 k)).setCell ⟨w.heap.size, 1, none⟩ (.int .i64 a)).setCell ⟨w.heap.size, 2, none⟩ (.int .i64 cc)).setCell ⟨w.heap.size, 3, none⟩ (.int .i64 v)).cell? ⟨w4.heap.size, 0, none⟩ = some (.int .i64 k) := cell_of_row _ _ 0 _ _ _ rx
        have mx5_1 : ((((w8.setCell ⟨w.heap.size, 0, none⟩ (.int .i64 k)).setCell ⟨w.heap.size, 1, none⟩ (.int .i64 a)).setCell ⟨w.heap.size, 2, none⟩ (.int .i64 cc)).setCell ⟨w.heap.size, 3, none⟩ (.int .i64 v)).cell? ⟨w4.heap.size, 1, none⟩ = some (.int .i64 a) := cell_of_row _ _ 1 _ _ _ rx
        have mx5_2 : ((((w8.setCell ⟨w.heap.size, 0, none⟩ (.int .i64 k)).setCell ⟨w.heap.size, 1, none⟩ (.int .i64 a)).setCell ⟨w.heap.size, 2, none⟩ (.int .i64 cc)).setCell ⟨w.heap.size, 3, none⟩ (.int .i64 v)).cell? ⟨w4.heap.size, 2, none⟩ = some (.int .i64 cc) := cell_of_row _ _ 2 _ _ _ rx
        have mx5_3 : ((((w8.setCell ⟨w.heap.size, 0, none⟩ (.int .i64 k)).setCell ⟨w.heap.size, 1, none⟩ (.int .i64 a)).setCell ⟨w.heap.size, 2, none⟩ (.int .i64 cc)).setCell ⟨w.heap.size, 3, none⟩ (.int .i64 v)).cell? ⟨w4.heap.size, 3, none⟩ = some (.int .i64 v) := cell_of_row _ _ 3 _ _ _ rx
        go_simp
        refine hK.out _ _ ⟨mx5_0, mx5_1, mx5_2, mx5_3⟩ (fun hHeld => ?_)
        clear z9_0 z9_1 z9_2 z9_3 y9_0 y9_1 y9_2 y9_3 mx4_0 mx4_1 mx4_2 mx4_3
        generalize ((((w8.setCell ⟨w.heap.size, 0, none⟩ (.int .i64 k)).setCell ⟨w.heap.size, 1, none⟩ (.int .i64 a)).setCell ⟨w.heap.size, 2, none⟩ (.int .i64 cc)).setCell ⟨w.heap.size, 3, none⟩ (.int .i64 v)) = u9 at *
        clear hK K
        try simp only [Act.put, List.getElem_toArray, List.getElem_cons_zero, List.getElem_cons_succ, List.setIfInBounds_toArray, List.set_cons_zero, List.set_cons_succ]
        refine wpAnyH_ready (rs := [2, 7]) (by kernel_rfl) (by simp) ?_
        refine AllReadyH.cons rfl (fun K hK => ?_) ?_
        · have hn10 := below_new u9 (.cells #[.int .i64 size, .int .i64 (-1), .int .i64 65] 3)
          replace ra := rowKeep ra hn10
          replace rx := rowKeep rx hn10
          replace rq := rowKeep rq hn10
          replace hB := below_later hB hn10 (by omega)
          have mx6_0 : (u9.alloc (.cells #[.int .i64 size, .int .i64 (-1), .int .i64 65] 3)).cell? ⟨w4.heap.size, 0, none⟩ = some (.int .i64 k) := cell_of_row _ _ 0 _ _ _ rx
          have mx6_1 : (u9.alloc (.cells #[.int .i64 size, .int .i64 (-1), .int .i64 65] 3)).cell? ⟨w4.heap.size, 1, none⟩ = some (.int .i64 a) := cell_of_row _ _ 1 _ _ _ rx
          have mx6_2 : (u9.alloc (.cells #[.int .i64 size, .int .i64 (-1), .int .i64 65] 3)).cell? ⟨w4.heap.size, 2, none⟩ = some (.int .i64 cc) := cell_of_row _ _ 2 _ _ _ rx
          have mx6_3 : (u9.alloc (.cells #[.int .i64 size, .int .i64 (-1), .int .i64 65] 3)).cell? ⟨w4.heap.size, 3, none⟩ = some (.int .i64 v) := cell_of_row _ _ 3 _ _ _ rx
          clear hn10
          have s10 : u9.heap.size < (u9.alloc (.cells #[.int .i64 size, .int .i64 (-1), .int .i64 65] 3)).heap.size := Nat.lt_of_lt_of_eq (Nat.lt_succ_self _) (World.size_alloc _ _).symm
          have rp : (u9.alloc (.cells #[.int .i64 size, .int .i64 (-1), .int .i64 65] 3)).heap[u9.heap.size]? = some (.cells #[.int .i64 size, .int .i64 (-1), .int .i64 65] 3 (0, 0)) := by have q := heap_alloc_new u9 (.cells #[.int .i64 size, .int .i64 (-1), .int .i64 65] 3); (try simp only [World.size_alloc, World.size_setCell] at q); exact q
          go_simp
          refine hK.out _ _ ⟨mx6_0, mx6_1, mx6_2, mx6_3⟩ (fun hHeld => ?_)
          clear mx5_0 mx5_1 mx5_2 mx5_3
          generalize (u9.alloc (.cells #[.int .i64 size, .int .i64 (-1), .int .i64 65] 3)) = u10 at *
          clear hK K
          try simp only [Act.put, List.getElem_toArray, List.getElem_cons_zero, List.getElem_cons_succ, List.setIfInBounds_toArray, List.set_cons_zero, List.set_cons_succ]
          refine wpAnyH_ready (rs := [7]) (by kernel_rfl) (by simp) ?_
          refine AllReadyH.cons rfl (fun K hK => ?_) ?_
          · obtain ⟨i, hi, hpk⟩ := pickL (fun x => 0 ≤ x ∧ x < 3) [0, 0, 0, 0, 0, 1, 2] j (by decide) j0 j1
            obtain ⟨i0, i1⟩ := hi
            have hcv := lit_at rq hpk
            clear hpk
            go_simp
            refine hK.out _ _ ⟨mx6_0, mx6_1, mx6_2, mx6_3⟩ (fun hHeld => ?_)
            clear hK K
            try simp only [Act.put, List.getElem_toArray, List.getElem_cons_zero, List.getElem_cons_succ, List.setIfInBounds_toArray, List.set_cons_zero, List.set_cons_succ]
            refine wpAnyH_take (i := 8) (v := ?_) rfl (by kernel_rfl) (by kernel_rfl) (by kernel_rfl) (fun _ _ _ h => h) (Or.inl ⟨by rfl, ?_⟩) (by assumption) ?_
            rotate_left
            · (intro wz hSw; (try dsimp only at hSw); go_simp; try with_reducible rfl)
            simp only [Act.put, List.getElem_toArray, List.getElem_cons_zero, List.getElem_cons_succ, List.setIfInBounds_toArray, List.set_cons_zero, List.set_cons_succ]
            refine wpAnyH_ready (rs := [9]) (by kernel_rfl) (by simp) ?_
            refine AllReadyH.cons rfl (fun K hK => ?_) ?_
            · obtain ⟨y, hy, hpk⟩ := pickL (fun x => -1 ≤ x ∧ x ≤ 65) [size, (-1), 65] i (by intro z hz; simp only [List.mem_cons, List.not_mem_nil, or_false] at hz; omega) i0 i1
              have hcw := lit_at rp hpk
              clear hpk
              go_simp
              refine hK.out _ _ ⟨mx6_0, mx6_1, mx6_2, mx6_3⟩ (fun hHeld => ?_)
              clear hK K
              try simp only [Act.put, List.getElem_toArray, List.getElem_cons_zero, List.getElem_cons_succ, List.setIfInBounds_toArray, List.set_cons_zero, List.set_cons_succ]
              refine wpAnyH_take (i := 11) (v := ?_) rfl (by kernel_rfl) (by kernel_rfl) (by kernel_rfl) (fun _ _ _ h => h) (Or.inl ⟨by rfl, ?_⟩) (by assumption) ?_
              rotate_left
              · (intro wz hSw; (try dsimp only at hSw); go_simp; try with_reducible rfl)
              simp only [Act.put, List.getElem_toArray, List.getElem_cons_zero, List.getElem_cons_succ, List.setIfInBounds_toArray, List.set_cons_zero, List.set_cons_succ]
              refine wpAnyH_done (by kernel_rfl) ?_ _
              refine NoPanic.normal ?_
              have ma1_0 : u10.cell? ⟨w.heap.size, 0, none⟩ = some (.int .i64 k) := cell_of_row _ _ 0 _ _ _ ra
              have ma1_1 : u10.cell? ⟨w.heap.size, 1, none⟩ = some (.int .i64 a) := cell_of_row _ _ 1 _ _ _ ra
              have ma1_2 : u10.cell? ⟨w.heap.size, 2, none⟩ = some (.int .i64 cc) := cell_of_row _ _ 2 _ _ _ ra
              have ma1_3 : u10.cell? ⟨w.heap.size, 3, none⟩ = some (.int .i64 v) := cell_of_row _ _ 3 _ _ _ ra
              go_wp2_with fail
              refine bodyPost_ret (v := .tuple #[.agg #[.int .i64 k, .int .i64 a, .int .i64 cc, .int .i64 v], .int .i64 y]) (by simp [results, Try.results8, go_sem, ma1_0, ma1_1, ma1_2, ma1_3]) rfl ?_
              exact ⟨k, a, cc, v, y, rfl, c4, hy, hB⟩
            exact AllReadyH.nil
          exact AllReadyH.nil
        refine AllReadyH.cons rfl (fun K hK => ?_) ?_
        · obtain ⟨i, hi, hpk⟩ := pickL (fun x => 0 ≤ x ∧ x < 3) [0, 0, 0, 0, 0, 1, 2] j (by decide) j0 j1
          obtain ⟨i0, i1⟩ := hi
          have hcv := lit_at rq hpk
          clear hpk
          go_simp
          refine hK.out _ _ ⟨mx5_0, mx5_1, mx5_2, mx5_3⟩ (fun hHeld => ?_)
          clear hK K
          try simp only [Act.put, List.getElem_toArray, List.getElem_cons_zero, List.getElem_cons_succ, List.setIfInBounds_toArray, List.set_cons_zero, List.set_cons_succ]
          refine wpAnyH_ready (rs := [2]) (by kernel_rfl) (by simp) ?_
          refine AllReadyH.cons rfl (fun K hK => ?_) ?_
          · have hn10 := below_new u9 (.cells #[.int .i64 size, .int .i64 (-1), .int .i64 65] 3)
            replace ra := rowKeep ra hn10
            replace rx := rowKeep rx hn10
            replace rq := rowKeep rq hn10
            replace hB := below_later hB hn10 (by omega)
            have mx6_0 : (u9.alloc (.cells #[.int .i64 size, .int .i64 (-1), .int .i64 65] 3)).cell? ⟨w4.heap.size, 0, none⟩ = some (.int .i64 k) := cell_of_row _ _ 0 _ _ _ rx
            have mx6_1 : (u9.alloc (.cells #[.int .i64 size, .int .i64 (-1), .int .i64 65] 3)).cell? ⟨w4.heap.size, 1, none⟩ = some (.int .i64 a) := cell_of_row _ _ 1 _ _ _ rx
            have mx6_2 : (u9.alloc (.cells #[.int .i64 size, .int .i64 (-1), .int .i64 65] 3)).cell? ⟨w4.heap.size, 2, none⟩ = some (.int .i64 cc) := cell_of_row _ _ 2 _ _ _ rx
            have mx6_3 : (u9.alloc (.cells #[.int .i64 size, .int .i64 (-1), .int .i64 65] 3)).cell? ⟨w4.heap.size, 3, none⟩ = some (.int .i64 v) := cell_of_row _ _ 3 _ _ _ rx
            clear hn10
            have s10 : u9.heap.size < (u9.alloc (.cells #[.int .i64 size, .int .i64 (-1), .int .i64 65] 3)).heap.size := Nat.lt_of_lt_of_eq (Nat.lt_succ_self _) (World.size_alloc _ _).symm
            have rp : (u9.alloc (.cells #[.int .i64 size, .int .i64 (-1), .int .i64 65] 3)).heap[u9.heap.size]? = some (.cells #[.int .i64 size, .int .i64 (-1), .int .i64 65] 3 (0, 0)) := by have q := heap_alloc_new u9 (.cells #[.int .i64 size, .int .i64 (-1), .int .i64 65] 3); (try simp only [World.size_alloc, World.size_setCell] at q); exact q
            go_simp
            refine hK.out _ _ ⟨mx6_0, mx6_1, mx6_2, mx6_3⟩ (fun hHeld => ?_)
            clear mx5_0 mx5_1 mx5_2 mx5_3
            generalize (u9.alloc (.cells #[.int .i64 size, .int .i64 (-1), .int .i64 65] 3)) = u10 at *
            clear hK K
            try simp only [Act.put, List.getElem_toArray, List.getElem_cons_zero, List.getElem_cons_succ, List.setIfInBounds_toArray, List.set_cons_zero, List.set_cons_succ]
            refine wpAnyH_take (i := 8) (v := ?_) rfl (by kernel_rfl) (by kernel_rfl) (by kernel_rfl) (fun _ _ _ h => h) (Or.inl ⟨by rfl, ?_⟩) (by assumption) ?_
            rotate_left
            · (intro wz hSw; (try dsimp only at hSw); go_simp; try with_reducible rfl)
            simp only [Act.put, List.getElem_toArray, List.getElem_cons_zero, List.getElem_cons_succ, List.setIfInBounds_toArray, List.set_cons_zero, List.set_cons_succ]
            refine wpAnyH_ready (rs := [9]) (by kernel_rfl) (by simp) ?_
            refine AllReadyH.cons rfl (fun K hK => ?_) ?_
            · obtain ⟨y, hy, hpk⟩ := pickL (fun x => -1 ≤ x ∧ x ≤ 65) [size, (-1), 65] i (by intro z hz; simp only [List.mem_cons, List.not_mem_nil, or_false] at hz; omega) i0 i1
              have hcw := lit_at rp hpk
              clear hpk
              go_simp
              refine hK.out _ _ ⟨mx6_0, mx6_1, mx6_2, mx6_3⟩ (fun hHeld => ?_)
              clear hK K
              try simp only [Act.put, List.getElem_toArray, List.getElem_cons_zero, List.getElem_cons_succ, List.setIfInBounds_toArray, List.set_cons_zero, List.set_cons_succ]
              refine wpAnyH_take (i := 11) (v := ?_) rfl (by kernel_rfl) (by kernel_rfl) (by kernel_rfl) (fun _ _ _ h => h) (Or.inl ⟨by rfl, ?_⟩) (by assumption) ?_
              rotate_left
              · (intro wz hSw; (try dsimp only at hSw); go_simp; try with_reducible rfl)
              simp only [Act.put, List.getElem_toArray, List.getElem_cons_zero, List.getElem_cons_succ, List.setIfInBounds_toArray, List.set_cons_zero, List.set_cons_succ]
              refine wpAnyH_done (by kernel_rfl) ?_ _
              refine NoPanic.normal ?_
              have ma1_0 : u10.cell? ⟨w.heap.size, 0, none⟩ = some (.int .i64 k) := cell_of_row _ _ 0 _ _ _ ra
              have ma1_1 : u10.cell? ⟨w.heap.size, 1, none⟩ = some (.int .i64 a) := cell_of_row _ _ 1 _ _ _ ra
              have ma1_2 : u10.cell? ⟨w.heap.size, 2, none⟩ = some (.int .i64 cc) := cell_of_row _ _ 2 _ _ _ ra
              have ma1_3 : u10.cell? ⟨w.heap.size, 3, none⟩ = some (.int .i64 v) := cell_of_row _ _ 3 _ _ _ ra
              go_wp2_with fail
              refine bodyPost_ret (v := .tuple #[.agg #[.int .i64 k, .int .i64 a, .int .i64 cc, .int .i64 v], .int .i64 y]) (by simp [results, Try.results8, go_sem, ma1_0, ma1_1, ma1_2, ma1_3]) rfl ?_
              exact ⟨k, a, cc, v, y, rfl, c4, hy, hB⟩
            exact AllReadyH.nil
          exact AllReadyH.nil
        exact AllReadyH.nil
      exact AllReadyH.nil
    exact AllReadyH.nil
  refine AllReadyH.cons rfl (fun K hK => ?_) ?_
  · go_simp
    refine (pick_any (u1.heap.size) (p4) (7) _ hr (by omega)).mono ?_
    rintro e w7 ⟨j, rfl, h7, q7, f7, e7⟩
    have s7 := f7.size
    clear hr
    have hr := q7
    clear q7
    clear mx2_0 mx2_1 mx2_2 mx2_3
    replace ra := rowFr ra f7 (by omega)
    replace rx := rowFr rx f7 (by omega)
    replace hB := f7.below hB (by omega) (by omega)
    have mx3_0 : w7.cell? ⟨w4.heap.size, 0, none⟩ = some (.int .i64 k) := cell_of_row _ _ 0 _ _ _ rx
    have mx3_1 : w7.cell? ⟨w4.heap.size, 1, none⟩ = some (.int .i64 a) := cell_of_row _ _ 1 _ _ _ rx
    have mx3_2 : w7.cell? ⟨w4.heap.size, 2, none⟩ = some (.int .i64 cc) := cell_of_row _ _ 2 _ _ _ rx
    have mx3_3 : w7.cell? ⟨w4.heap.size, 3, none⟩ = some (.int .i64 v) := cell_of_row _ _ 3 _ _ _ rx
    clear f7
    obtain ⟨j0, j1⟩ : 0 ≤ j ∧ j < 7 := by omega
    clear h7 e7
    refine hK.out _ _ ⟨mx3_0, mx3_1, mx3_2, mx3_3⟩ (fun hHeld => ?_)
    clear hK K
    try simp only [Act.put, List.getElem_toArray, List.getElem_cons_zero, List.getElem_cons_succ, List.setIfInBounds_toArray, List.set_cons_zero, List.set_cons_succ]
    refine wpAnyH_ready (rs := [2, 3, 10]) (by kernel_rfl) (by simp) ?_
    refine AllReadyH.cons rfl (fun K hK => ?_) ?_
    · have hn8 := below_new w7 (.cells #[.int .i64 size, .int .i64 (-1), .int .i64 65] 3)
      replace ra := rowKeep ra hn8
      replace rx := rowKeep rx hn8
      replace hr := hr.below hn8
      replace hB := below_later hB hn8 (by omega)
      have mx4_0 : (w7.alloc (.cells #[.int .i64 size, .int .i64 (-1), .int .i64 65] 3)).cell? ⟨w4.heap.size, 0, none⟩ = some (.int .i64 k) := cell_of_row _ _ 0 _ _ _ rx
      have mx4_1 : (w7.alloc (.cells #[.int .i64 size, .int .i64 (-1), .int .i64 65] 3)).cell? ⟨w4.heap.size, 1, none⟩ = some (.int .i64 a) := cell_of_row _ _ 1 _ _ _ rx
      have mx4_2 : (w7.alloc (.cells #[.int .i64 size, .int .i64 (-1), .int .i64 65] 3)).cell? ⟨w4.heap.size, 2, none⟩ = some (.int .i64 cc) := cell_of_row _ _ 2 _ _ _ rx
      have mx4_3 : (w7.alloc (.cells #[.int .i64 size, .int .i64 (-1), .int .i64 65] 3)).cell? ⟨w4.heap.size, 3, none⟩ = some (.int .i64 v) := cell_of_row _ _ 3 _ _ _ rx
      clear hn8
      have s8 : w7.heap.size < (w7.alloc (.cells #[.int .i64 size, .int .i64 (-1), .int .i64 65] 3)).heap.size := Nat.lt_of_lt_of_eq (Nat.lt_succ_self _) (World.size_alloc _ _).symm
      have rp : (w7.alloc (.cells #[.int .i64 size, .int .i64 (-1), .int .i64 65] 3)).heap[w7.heap.size]? = some (.cells #[.int .i64 size, .int .i64 (-1), .int .i64 65] 3 (0, 0)) := by have q := heap_alloc_new w7 (.cells #[.int .i64 size, .int .i64 (-1), .int .i64 65] 3); (try simp only [World.size_alloc, World.size_setCell] at q); exact q
      go_simp
      refine hK.out _ _ ⟨mx4_0, mx4_1, mx4_2, mx4_3⟩ (fun hHeld => ?_)
      clear mx3_0 mx3_1 mx3_2 mx3_3
      generalize (w7.alloc (.cells #[.int .i64 size, .int .i64 (-1), .int .i64 65] 3)) = u8 at *
      clear hK K
      try simp only [Act.put, List.getElem_toArray, List.getElem_cons_zero, List.getElem_cons_succ, List.setIfInBounds_toArray, List.set_cons_zero, List.set_cons_succ]
      refine wpAnyH_ready (rs := [3, 10]) (by kernel_rfl) (by simp) ?_
      refine AllReadyH.cons rfl (fun K hK => ?_) ?_
      · have hn9 := below_new u8 (.cells #[.int .i64 0, .int .i64 0, .int .i64 0, .int .i64 0, .int .i64 0, .int .i64 1, .int .i64 2] 3)
        replace ra := rowKeep ra hn9
        replace rx := rowKeep rx hn9
        replace rp := rowKeep rp hn9
        replace hr := hr.below hn9
        replace hB := below_later hB hn9 (by omega)
        have mx5_0 : (u8.alloc (.cells #[.int .i64 0, .int .i64 0, .int .i64 0, .int .i64 0, .int .i64 0, .int .i64 1, .int .i64 2] 3)).cell? ⟨w4.heap.size, 0, none⟩ = some (.int .i64 k) := cell_of_row _ _ 0 _ _ _ rx
        have mx5_1 : (u8.alloc (.cells #[.int .i64 0, .int .i64 0, .int .i64 0, .int .i64 0, .int .i64 0, .int .i64 1, .int .i64 2] 3)).cell? ⟨w4.heap.size, 1, none⟩ = some (.int .i64 a) := cell_of_row _ _ 1 _ _ _ rx
        have mx5_2 : (u8.alloc (.cells #[.int .i64 0, .int .i64 0, .int .i64 0, .int .i64 0, .int .i64 0, .int .i64 1, .int .i64 2] 3)).cell? ⟨w4.heap.size, 2, none⟩ = some (.int .i64 cc) := cell_of_row _ _ 2 _ _ _ rx
        have mx5_3 : (u8.alloc (.cells #[.int .i64 0, .int .i64 0, .int .i64 0, .int .i64 0, .int .i64 0, .int .i64 1, .int .i64 2] 3)).cell? ⟨w4.heap.size, 3, none⟩ = some (.int .i64 v) := cell_of_row _ _ 3 _ _ _ rx
        clear hn9
        have s9 : u8.heap.size < (u8.alloc (.cells #[.int .i64 0, .int .i64 0, .int .i64 0, .int .i64 0, .int .i64 0, .int .i64 1, .int .i64 2] 3)).heap.size := Nat.lt_of_lt_of_eq (Nat.lt_succ_self _) (World.size_alloc _ _).symm
        have rq : (u8.alloc (.cells #[.int .i64 0, .int .i64 0, .int .i64 0, .int .i64 0, .int .i64 0, .int .i64 1, .int .i64 2] 3)).heap[u8.heap.size]? = some (.cells #[.int .i64 0, .int .i64 0, .int .i64 0, .int .i64 0, .int .i64 0, .int .i64 1, .int .i64 2] 3 (0, 0)) := by have q := heap_alloc_new u8 (.cells #[.int .i64 0, .int .i64 0, .int .i64 0, .int .i64 0, .int .i64 0, .int .i64 1, .int .i64 2] 3); (try simp only [World.size_alloc, World.size_setCell] at q); exact q
        go_simp
        refine hK.out _ _ ⟨mx5_0, mx5_1, mx5_2, mx5_3⟩ (fun hHeld => ?_)
        clear mx4_0 mx4_1 mx4_2 mx4_3
        generalize (u8.alloc (.cells #[.int .i64 0, .int .i64 0, .int .i64 0, .int .i64 0, .int .i64 0, .int .i64 1, .int .i64 2] 3)) = u9 at *
        clear hK K
        try simp only [Act.put, List.getElem_toArray, List.getElem_cons_zero, List.getElem_cons_succ, List.setIfInBounds_toArray, List.set_cons_zero, List.set_cons_succ]
        refine wpAnyH_take (i := 6) (v := ?_) rfl (by kernel_rfl) (by kernel_rfl) (by kernel_rfl) (fun _ _ _ h => h) (Or.inl ⟨by rfl, ?_⟩) (by assumption) ?_
        rotate_left
        · (intro wz hSw; (try dsimp only at hSw); go_simp; try with_reducible rfl)
        simp only [Act.put, List.getElem_toArray, List.getElem_cons_zero, List.getElem_cons_succ, List.setIfInBounds_toArray, List.set_cons_zero, List.set_cons_succ]
        refine wpAnyH_ready (rs := [7, 10]) (by kernel_rfl) (by simp) ?_
        refine AllReadyH.cons rfl (fun K hK => ?_) ?_
        · obtain ⟨i, hi, hpk⟩ := pickL (fun x => 0 ≤ x ∧ x < 3) [0, 0, 0, 0, 0, 1, 2] j (by decide) j0 j1
          obtain ⟨i0, i1⟩ := hi
          have hcv := lit_at rq hpk
          clear hpk
          go_simp
          refine hK.out _ _ ⟨mx5_0, mx5_1, mx5_2, mx5_3⟩ (fun hHeld => ?_)
          clear hK K
          try simp only [Act.put, List.getElem_toArray, List.getElem_cons_zero, List.getElem_cons_succ, List.setIfInBounds_toArray, List.set_cons_zero, List.set_cons_succ]
          refine wpAnyH_take (i := 8) (v := ?_) rfl (by kernel_rfl) (by kernel_rfl) (by kernel_rfl) (fun _ _ _ h => h) (Or.inl ⟨by rfl, ?_⟩) (by assumption) ?_
          rotate_left
          · (intro wz hSw; (try dsimp only at hSw); go_simp; try with_reducible rfl)
          simp only [Act.put, List.getElem_toArray, List.getElem_cons_zero, List.getElem_cons_succ, List.setIfInBounds_toArray, List.set_cons_zero, List.set_cons_succ]
          refine wpAnyH_ready (rs := [9, 10]) (by kernel_rfl) (by simp) ?_
          refine AllReadyH.cons rfl (fun K hK => ?_) ?_
          · obtain ⟨y, hy, hpk⟩ := pickL (fun x => -1 ≤ x ∧ x ≤ 65) [size, (-1), 65] i (by intro z hz; simp only [List.mem_cons, List.not_mem_nil, or_false] at hz; omega) i0 i1
            have hcw := lit_at rp hpk
            clear hpk
            go_simp
            refine hK.out _ _ ⟨mx5_0, mx5_1, mx5_2, mx5_3⟩ (fun hHeld => ?_)
            clear hK K
            try simp only [Act.put, List.getElem_toArray, List.getElem_cons_zero, List.getElem_cons_succ, List.setIfInBounds_toArray, List.set_cons_zero, List.set_cons_succ]
            refine wpAnyH_ready (rs := [10]) (by kernel_rfl) (by simp) ?_
            refine AllReadyH.cons rfl (fun K hK => ?_) ?_
            · have z10_0 := frzRow ra 0
              have z10_1 := frzRow ra 1
              have z10_2 := frzRow ra 2
              have z10_3 := frzRow ra 3
              have y10_0 : u9.cell? ⟨w.heap.size, 0, none⟩ = some (.int .i64 0) := cell_of_row _ _ 0 _ _ _ ra
              have y10_1 : u9.cell? ⟨w.heap.size, 1, none⟩ = some (.int .i64 0) := cell_of_row _ _ 1 _ _ _ ra
              have y10_2 : u9.cell? ⟨w.heap.size, 2, none⟩ = some (.int .i64 0) := cell_of_row _ _ 2 _ _ _ ra
              have y10_3 : u9.cell? ⟨w.heap.size, 3, none⟩ = some (.int .i64 0) := cell_of_row _ _ 3 _ _ _ ra
              replace rx := rowSet (rowSet (rowSet (rowSet (rx) ⟨w.heap.size, 0, none⟩ (.int .i64 k) (by show _ ≠ w.heap.size; omega)) ⟨w.heap.size, 1, none⟩ (.int .i64 a) (by show _ ≠ w.heap.size; omega)) ⟨w.heap.size, 2, none⟩ (.int .i64 cc) (by show _ ≠ w.heap.size; omega)) ⟨w.heap.size, 3, none⟩ (.int .i64 v) (by show _ ≠ w.heap.size; omega)
              replace rp := rowSet (rowSet (rowSet (rowSet (rp) ⟨w.heap.size, 0, none⟩ (.int .i64 k) (by show _ ≠ w.heap.size; omega)) ⟨w.heap.size, 1, none⟩ (.int .i64 a) (by show _ ≠ w.heap.size; omega)) ⟨w.heap.size, 2, none⟩ (.int .i64 cc) (by show _ ≠ w.heap.size; omega)) ⟨w.heap.size, 3, none⟩ (.int .i64 v) (by show _ ≠ w.heap.size; omega)
              replace rq := rowSet (rowSet (rowSet (rowSet (rq) ⟨w.heap.size, 0, none⟩ (.int .i64 k) (by show _ ≠ w.heap.size; omega)) ⟨w.heap.size, 1, none⟩ (.int .i64 a) (by show _ ≠ w.heap.size; omega)) ⟨w.heap.size, 2, none⟩ (.int .i64 cc) (by show _ ≠ w.heap.size; omega)) ⟨w.heap.size, 3, none⟩ (.int .i64 v) (by show _ ≠ w.heap.size; omega)
              replace ra := set43 (set42 (set41 (set40 (ra) (.int .i64 k)) (.int .i64 a)) (.int .i64 cc)) (.int .i64 v)
              clear hr
              replace hB := ((((hB).setCell (p := ⟨w.heap.size, 0, none⟩) (by show _ ≤ w.heap.size; omega) (.int .i64 k)).setCell (p := ⟨w.heap.size, 1, none⟩) (by show _ ≤ w.heap.size; omega) (.int .i64 a)).setCell (p := ⟨w.heap.size, 2, none⟩) (by show _ ≤ w.heap.size; omega) (.int .i64 cc)).setCell (p := ⟨w.heap.size, 3, none⟩) (by show _ ≤ w.heap.size; omega) (.int .i64 v)
              have s10 : u9.heap.size ≤ ((((u9.setCell ⟨w.heap.size, 0, none⟩ (.int .i64 k)).setCell ⟨w.heap.size, 1, none⟩ (.int .i64 a)).setCell ⟨w.heap.size, 2, none⟩ (.int .i64 cc)).setCell ⟨w.heap.size, 3, none⟩ (.int .i64 v)).heap.size := by simp only [World.size_setCell]; exact Nat.le_refl _
              have mx6_0 : ((((u9.setCell ⟨w.heap.size, 0, none⟩ (.int .i64 k)).setCell ⟨w.heap.size, 1, none⟩ (.int .i64 a)).setCell ⟨w.heap.size, 2, none⟩ (.int .i64 cc)).setCell ⟨w.heap.size, 3, none⟩ (.int .i64 v)).cell? ⟨w4.heap.size, 0, none⟩ = some (.int .i64 k) := cell_of_row _ _ 0 _ _ _ rx
              have mx6_1 : ((((u9.setCell ⟨w.heap.size, 0, none⟩ (.int .i64 k)).setCell ⟨w.heap.size, 1, none⟩ (.int .i64 a)).setCell ⟨w.heap.size, 2, none⟩ (.int .i64 cc)).setCell ⟨w.heap.size, 3, none⟩ (.int .i64 v)).cell? ⟨w4.heap.size, 1, none⟩ = some (.int .i64 a) := cell_of_row _ _ 1 _ _ _ rx
              have mx6_2 : ((((u9.setCell ⟨w.heap.size, 0, none⟩ (.int .i64 k)).setCell ⟨w.heap.size, 1, none⟩ (.int .i64 a)).setCell ⟨w.heap.size, 2, none⟩ (.int .i64 cc)).setCell ⟨w.heap.size, 3, none⟩ (.int .i64 v)).cell? ⟨w4.heap.size, 2, none⟩ = some (.int .i64 cc) := cell_of_row _ _ 2 _ _ _ rx
              have mx6_3 : ((((u9.setCell ⟨w.heap.size, 0, none⟩ (.int .i64 k)).setCell ⟨w.heap.size, 1, none⟩ (.int .i64 a)).setCell ⟨w.heap.size, 2, none⟩ (.int .i64 cc)).setCell ⟨w.heap.size, 3, none⟩ (.int .i64 v)).cell? ⟨w4.heap.size, 3, none⟩ = some (.int .i64 v) := cell_of_row _ _ 3 _ _ _ rx
              go_simp
              refine hK.out _ _ ⟨mx6_0, mx6_1, mx6_2, mx6_3⟩ (fun hHeld => ?_)
              clear z10_0 z10_1 z10_2 z10_3 y10_0 y10_1 y10_2 y10_3 mx5_0 mx5_1 mx5_2 mx5_3
              generalize ((((u9.setCell ⟨w.heap.size, 0, none⟩ (.int .i64 k)).setCell ⟨w.heap.size, 1, none⟩ (.int .i64 a)).setCell ⟨w.heap.size, 2, none⟩ (.int .i64 cc)).setCell ⟨w.heap.size, 3, none⟩ (.int .i64 v)) = u10 at *
              clear hK K
              try simp only [Act.put, List.getElem_toArray, List.getElem_cons_zero, List.getElem_cons_succ, List.setIfInBounds_toArray, List.set_cons_zero, List.set_cons_succ]
              refine wpAnyH_take (i := 11) (v := ?_) rfl (by kernel_rfl) (by kernel_rfl) (by kernel_rfl) (fun _ _ _ h => h) (Or.inl ⟨by rfl, ?_⟩) (by assumption) ?_
              rotate_left
              · (intro wz hSw; (try dsimp only at hSw); go_simp; try with_reducible rfl)
              simp only [Act.put, List.getElem_toArray, List.getElem_cons_zero, List.getElem_cons_succ, List.setIfInBounds_toArray, List.set_cons_zero, List.set_cons_succ]
              refine wpAnyH_done (by kernel_rfl) ?_ _
              refine NoPanic.normal ?_
              have ma1_0 : u10.cell? ⟨w.heap.size, 0, none⟩ = some (.int .i64 k) := cell_of_row _ _ 0 _ _ _ ra
              have ma1_1 : u10.cell? ⟨w.heap.size, 1, none⟩ = some (.int .i64 a) := cell_of_row _ _ 1 _ _ _ ra
              have ma1_2 : u10.cell? ⟨w.heap.size, 2, none⟩ = some (.int .i64 cc) := cell_of_row _ _ 2 _ _ _ ra
              have ma1_3 : u10.cell? ⟨w.heap.size, 3, none⟩ = some (.int .i64 v) := cell_of_row _ _ 3 _ _ _ ra
              go_wp2_with fail
              refine bodyPost_ret (v := .tuple #[.agg #[.int .i64 k, .int .i64 a, .int .i64 cc, .int .i64 v], .int .i64 y]) (by simp [results, Try.results8, go_sem, ma1_0, ma1_1, ma1_2, ma1_3]) rfl ?_
              exact ⟨k, a, cc, v, y, rfl, c4, hy, hB⟩
            exact AllReadyH.nil
          refine AllReadyH.cons rfl (fun K hK => ?_) ?_
          · have z10_0 := frzRow ra 0
            have z10_1 := frzRow ra 1
            have z10_2 := frzRow ra 2
            have z10_3 := frzRow ra 3
            have y10_0 : u9.cell? ⟨w.heap.size, 0, none⟩ = some (.int .i64 0) := cell_of_row _ _ 0 _ _ _ ra
            have y10_1 : u9.cell? ⟨w.heap.size, 1, none⟩ = some (.int .i64 0) := cell_of_row _ _ 1 _ _ _ ra
            have y10_2 : u9.cell? ⟨w.heap.size, 2, none⟩ = some (.int .i64 0) := cell_of_row _ _ 2 _ _ _ ra
            have y10_3 : u9.cell? ⟨w.heap.size, 3, none⟩ = some (.int .i64 0) := cell_of_row _ _ 3 _ _ _ ra
            replace rx := rowSet (rowSet (rowSet (rowSet (rx) ⟨w.heap.size, 0, none⟩ (.int .i64 k) (by show _ ≠ w.heap.size; omega)) ⟨w.heap.size, 1, none⟩ (.int .i64 a) (by show _ ≠ w.heap.size; omega)) ⟨w.heap.size, 2, none⟩ (.int .i64 cc) (by show _ ≠ w.heap.size; omega)) ⟨w.heap.size, 3, none⟩ (.int .i64 v) (by show _ ≠ w.heap.size; omega)
            replace rp := rowSet (rowSet (rowSet (rowSet (rp) ⟨w.heap.size, 0, none⟩ (.int .i64 k) (by show _ ≠ w.heap.size; omega)) ⟨w.heap.size, 1, none⟩ (.int .i64 a) (by show _ ≠ w.heap.size; omega)) ⟨w.heap.size, 2, none⟩ (.int .i64 cc) (by show _ ≠ w.heap.size; omega)) ⟨w.heap.size, 3, none⟩ (.int .i64 v) (by show _ ≠ w.heap.size; omega)
            replace rq := rowSet (rowSet (rowSet (rowSet (rq) ⟨w.heap.size, 0, none⟩ (.int .i64 k) (by show _ ≠ w.heap.size; omega)) ⟨w.heap.size, 1, none⟩ (.int .i64 a) (by show _ ≠ w.heap.size; omega)) ⟨w.heap.size, 2, none⟩ (.int .i64 cc) (by show _ ≠ w.heap.size; omega)) ⟨w.heap.size, 3, none⟩ (.int .i64 v) (by show _ ≠ w.heap.size; omega)
            replace ra := set43 (set42 (set41 (set40 (ra) (.int .i64 k)) (.int .i64 a)) (.int .i64 cc)) (.int .i64 v)
            clear hr
            replace hB := ((((hB).setCell (p := ⟨w.heap.size, 0, none⟩) (by show _ ≤ w.heap.size; omega) (.int .i64 k)).setCell (p := ⟨w.heap.size, 1, none⟩) (by show _ ≤ w.heap.size; omega) (.int .i64 a)).setCell (p := ⟨w.heap.size, 2, none⟩) (by show _ ≤ w.heap.size; omega) (.int .i64 cc)).setCell (p := ⟨w.heap.size, 3, none⟩) (by show _ ≤ w.heap.size; omega) (.int .i64 v)
            have s10 : u9.heap.size ≤ ((((u9.setCell ⟨w.heap.size, 0, none⟩ (.int .i64 k)).setCell ⟨w.heap.size, 1, none⟩ (.int .i64 a)).setCell ⟨w.heap.size, 2, none⟩ (.int .i64 cc)).setCell ⟨w.heap.size, 3, none⟩ (.int .i64 v)).heap.size := by simp only [World.size_setCell]; exact Nat.le_refl _
            have mx6_0 : ((((u9.setCell ⟨w.heap.size, 0, none⟩ (.int .i64 k)).setCell ⟨w.heap.size, 1, none⟩ (.int .i64 a)).setCell ⟨w.heap.size, 2, none⟩ (.int .i64 cc)).setCell ⟨w.heap.size, 3, none⟩ (.int .i64 v)).cell? ⟨w4.heap.size, 0, none⟩ = some (.int .i64 k) := cell_of_row _ _ 0 _ _ _ rx
            have mx6_1 : ((((u9.setCell ⟨w.heap.size, 0, none⟩ (.int .i64 k)).setCell ⟨w.heap.size, 1, none⟩ (.int .i64 a)).setCell ⟨w.heap.size, 2, none⟩ (.int .i64 cc)).setCell ⟨w.heap.size, 3, none⟩ (.int .i64 v)).cell? ⟨w4.heap.size, 1, none⟩ = some (.int .i64 a) := cell_of_row _ _ 1 _ _ _ rx
            have mx6_2 : ((((u9.setCell ⟨w.heap.size, 0, none⟩ (.int .i64 k)).setCell ⟨w.heap.size, 1, none⟩ (.int .i64 a)).setCell ⟨w.heap.size, 2, none⟩ (.int .i64 cc)).setCell ⟨w.heap.size, 3, none⟩ (.int .i64 v)).cell? ⟨w4.heap.size, 2, none⟩ = some (.int .i64 cc) := cell_of_row _ _ 2 _ _ _ rx
            have mx6_3 : ((((u9.setCell ⟨w.heap.size, 0, none⟩ (.int .i64 k)).setCell ⟨w.heap.size, 1, none⟩ (.int .i64 a)).setCell ⟨w.heap.size, 2, none⟩ (.int .i64 cc)).setCell ⟨w.heap.size, 3, none⟩ (.int .i64 v)).cell? ⟨w4.heap.size, 3, none⟩ = some (.int .i64 v) := cell_of_row _ _ 3 _ _ _ rx
            go_simp
            refine hK.out _ _ ⟨mx6_0, mx6_1, mx6_2, mx6_3⟩ (fun hHeld => ?_)
            clear z10_0 z10_1 z10_2 z10_3 y10_0 y10_1 y10_2 y10_3 mx5_0 mx5_1 mx5_2 mx5_3
            generalize ((((u9.setCell ⟨w.heap.size, 0, none⟩ (.int .i64 k)).setCell ⟨w.heap.size, 1, none⟩ (.int .i64 a)).setCell ⟨w.heap.size, 2, none⟩ (.int .i64 cc)).setCell ⟨w.heap.size, 3, none⟩ (.int .i64 v)) = u10 at *
            clear hK K
            try simp only [Act.put, List.getElem_toArray, List.getElem_cons_zero, List.getElem_cons_succ, List.setIfInBounds_toArray, List.set_cons_zero, List.set_cons_succ]
            refine wpAnyH_ready (rs := [9]) (by kernel_rfl) (by simp) ?_
            refine AllReadyH.cons rfl (fun K hK => ?_) ?_
            · obtain ⟨y, hy, hpk⟩ := pickL (fun x => -1 ≤ x ∧ x ≤ 65) [size, (-1), 65] i (by intro z hz; simp only [List.mem_cons, List.not_mem_nil, or_false] at hz; omega) i0 i1
              have hcw := lit_at rp hpk
              clear hpk
              go_simp
              refine hK.out _ _ ⟨mx6_0, mx6_1, mx6_2, mx6_3⟩ (fun hHeld => ?_)
              clear hK K
              try simp only [Act.put, List.getElem_toArray, List.getElem_cons_zero, List.getElem_cons_succ, List.setIfInBounds_toArray, List.set_cons_zero, List.set_cons_succ]
              refine wpAnyH_take (i := 11) (v := ?_) rfl (by kernel_rfl) (by kernel_rfl) (by kernel_rfl) (fun _ _ _ h => h) (Or.inl ⟨by rfl, ?_⟩) (by assumption) ?_
              rotate_left
              · (intro wz hSw; (try dsimp only at hSw); go_simp; try with_reducible rfl)
              simp only [Act.put, List.getElem_toArray, List.getElem_cons_zero, List.getElem_cons_succ, List.setIfInBounds_toArray, List.set_cons_zero, List.set_cons_succ]
              refine wpAnyH_done (by kernel_rfl) ?_ _
              refine NoPanic.normal ?_
              have ma1_0 : u10.cell? ⟨w.heap.size, 0, none⟩ = some (.int .i64 k) := cell_of_row _ _ 0 _ _ _ ra
              have ma1_1 : u10.cell? ⟨w.heap.size, 1, none⟩ = some (.int .i64 a) := cell_of_row _ _ 1 _ _ _ ra
              have ma1_2 : u10.cell? ⟨w.heap.size, 2, none⟩ = some (.int .i64 cc) := cell_of_row _ _ 2 _ _ _ ra
              have ma1_3 : u10.cell? ⟨w.heap.size, 3, none⟩ = some (.int .i64 v) := cell_of_row _ _ 3 _ _ _ ra
              go_wp2_with fail
              refine bodyPost_ret (v := .tuple #[.agg #[.int .i64 k, .int .i64 a, .int .i64 cc, .int .i64 v], .int .i64 y]) (by simp [results, Try.results8, go_sem, ma1_0, ma1_1, ma1_2, ma1_3]) rfl ?_
              exact ⟨k, a, cc, v, y, rfl, c4, hy, hB⟩
            exact AllReadyH.nil
          exact AllReadyH.nil
        refine AllReadyH.cons rfl (fun K hK => ?_) ?_
        · have z10_0 := frzRow ra 0
          have z10_1 := frzRow ra 1
          have z10_2 := frzRow ra 2
          have z10_3 := frzRow ra 3
          have y10_0 : u9.cell? ⟨w.heap.size, 0, none⟩ = some (.int .i64 0) := cell_of_row _ _ 0 _ _ _ ra
          have y10_1 : u9.cell? ⟨w.heap.size, 1, none⟩ = some (.int .i64 0) := cell_of_row _ _ 1 _ _ _ ra
          have y10_2 : u9.cell? ⟨w.heap.size, 2, none⟩ = some (.int .i64 0) := cell_of_row _ _ 2 _ _ _ ra
          have y10_3 : u9.cell? ⟨w.heap.size, 3, none⟩ = some (.int .i64 0) := cell_of_row _ _ 3 _ _ _ ra
          replace rx := rowSet (rowSet (rowSet (rowSet (rx) ⟨w.heap.size, 0, none⟩ (.int .i64 k) (by show _ ≠ w.heap.size; omega)) ⟨w.heap.size, 1, none⟩ (.int .i64 a) (by show _ ≠ w.heap.size; omega)) ⟨w.heap.size, 2, none⟩ (.int .i64 cc) (by show _ ≠ w.heap.size; omega)) ⟨w.heap.size, 3, none⟩ (.int .i64 v) (by show _ ≠ w.heap.size; omega)
          replace rp := rowSet (rowSet (rowSet (rowSet (rp) ⟨w.heap.size, 0, none⟩ (.int .i64 k) (by show _ ≠ w.heap.size; omega)) ⟨w.heap.size, 1, none⟩ (.int .i64 a) (by show _ ≠ w.heap.size; omega)) ⟨w.heap.size, 2, none⟩ (.int .i64 cc) (by show _ ≠ w.heap.size; omega)) ⟨w.heap.size, 3, none⟩ (.int .i64 v) (by show _ ≠ w.heap.size; omega)
          replace rq := rowSet (rowSet (rowSet (rowSet (rq) ⟨w.heap.size, 0, none⟩ (.int .i64 k) (by show _ ≠ w.heap.size; omega)) ⟨w.heap.size, 1, none⟩ (.int .i64 a) (by show _ ≠ w.heap.size; omega)) ⟨w.heap.size, 2, none⟩ (.int .i64 cc) (by show _ ≠ w.heap.size; omega)) ⟨w.heap.size, 3, none⟩ (.int .i64 v) (by show _ ≠ w.heap.size; omega)
          replace ra := set43 (set42 (set41 (set40 (ra) (.int .i64 k)) (.int .i64 a)) (.int .i64 cc)) (.int .i64 v)
          clear hr
          replace hB := ((((hB).setCell (p := ⟨w.heap.size, 0, none⟩) (by show _ ≤ w.heap.size; omega) (.int .i64 k)).setCell (p := ⟨w.heap.size, 1, none⟩) (by show _ ≤ w.heap.size; omega) (.int .i64 a)).setCell (p := ⟨w.heap.size, 2, none⟩) (by show _ ≤ w.heap.size; omega) (.int .i64 cc)).setCell (p := ⟨w.heap.size, 3, none⟩) (by show _ ≤ w.heap.size; omega) (.int .i64 v)
          have s10 : u9.heap.size ≤ ((((u9.setCell ⟨w.heap.size, 0, none⟩ (.int .i64 k)).setCell ⟨w.heap.size, 1, none⟩ (.int .i64 a)).setCell ⟨w.heap.size, 2, none⟩ (.int .i64 cc)).setCell ⟨w.heap.size, 3, none⟩ (.int .i64 v)).heap.size := by simp only [World.size_setCell]; exact Nat.le_refl _
          have mx6_0 : ((((u9.setCell ⟨w.heap.size, 0, none⟩ (.int .i64 k)).setCell ⟨w.heap.size, 1, none⟩ (.int .i64 a)).setCell ⟨w.heap.size, 2, none⟩ (.int .i64 cc)).setCell ⟨w.heap.size, 3, none⟩ (.int .i64 v)).cell? ⟨w4.heap.size, 0, none⟩ = some (.int .i64 k) := cell_of_row _ _ 0 _ _ _ rx
          have mx6_1 : ((((u9.setCell ⟨w.heap.size, 0, none⟩ (.int .i64 k)).setCell ⟨w.heap.size, 1, none⟩ (.int .i64 a)).setCell ⟨w.heap.size, 2, none⟩ (.int .i64 cc)).setCell ⟨w.heap.size, 3, none⟩ (.int .i64 v)).cell? ⟨w4.heap.size, 1, none⟩ = some (.int .i64 a) := cell_of_row _ _ 1 _ _ _ rx
          have mx6_2 : ((((u9.setCell ⟨w.heap.size, 0, none⟩ (.int .i64 k)).setCell ⟨w.heap.size, 1, none⟩ (.int .i64 a)).setCell ⟨w.heap.size, 2, none⟩ (.int .i64 cc)).setCell ⟨w.heap.size, 3, none⟩ (.int .i64 v)).cell? ⟨w4.heap.size, 2, none⟩ = some (.int .i64 cc) := cell_of_row _ _ 2 _ _ _ rx
          have mx6_3 : ((((u9.setCell ⟨w.heap.size, 0, none⟩ (.int .i64 k)).setCell ⟨w.heap.size, 1, none⟩ (.int .i64 a)).setCell ⟨w.heap.size, 2, none⟩ (.int .i64 cc)).setCell ⟨w.heap.size, 3, none⟩ (.int .i64 v)).cell? ⟨w4.heap.size, 3, none⟩ = some (.int .i64 v) := cell_of_row _ _ 3 _ _ _ rx
          go_simp
          refine hK.out _ _ ⟨mx6_0, mx6_1, mx6_2, mx6_3⟩ (fun hHeld => ?_)
          clear z10_0 z10_1 z10_2 z10_3 y10_0 y10_1 y10_2 y10_3 mx5_0 mx5_1 mx5_2 mx5_3
          generalize ((((u9.setCell ⟨w.heap.size, 0, none⟩ (.int .i64 k)).setCell ⟨w.heap.size, 1, none⟩ (.int .i64 a)).setCell ⟨w.heap.size, 2, none⟩ (.int .i64 cc)).setCell ⟨w.heap.size, 3, none⟩ (.int .i64 v)) = u10 at *
          clear hK K
          try simp only [Act.put, List.getElem_toArray, List.getElem_cons_zero, List.getElem_cons_succ, List.setIfInBounds_toArray, List.set_cons_zero, List.set_cons_succ]
          refine wpAnyH_ready (rs := [7]) (by kernel_rfl) (by simp) ?_
          refine AllReadyH.cons rfl (fun K hK => ?_) ?_
          · obtain ⟨i, hi, hpk⟩ := pickL (fun x => 0 ≤ x ∧ x < 3) [0, 0, 0, 0, 0, 1, 2] j (by decide) j0 j1
            obtain ⟨i0, i1⟩ := hi
            have hcv := lit_at rq hpk
            clear hpk
            go_simp
            refine hK.out _ _ ⟨mx6_0, mx6_1, mx6_2, mx6_3⟩ (fun hHeld => ?_)
            clear hK K
            try simp only [Act.put, List.getElem_toArray, List.getElem_cons_zero, List.getElem_cons_succ, List.setIfInBounds_toArray, List.set_cons_zero, List.set_cons_succ]
            refine wpAnyH_take (i := 8) (v := ?_) rfl (by kernel_rfl) (by kernel_rfl) (by kernel_rfl) (fun _ _ _ h => h) (Or.inl ⟨by rfl, ?_⟩) (by assumption) ?_
            rotate_left
            · (intro wz hSw; (try dsimp only at hSw); go_simp; try with_reducible rfl)
            simp only [Act.put, List.getElem_toArray, List.getElem_cons_zero, List.getElem_cons_succ, List.setIfInBounds_toArray, List.set_cons_zero, List.set_cons_succ]
            refine wpAnyH_ready (rs := [9]) (by kernel_rfl) (by simp) ?_
            refine AllReadyH.cons rfl (fun K hK => ?_) ?_
            · obtain ⟨y, hy, hpk⟩ := pickL (fun x => -1 ≤ x ∧ x ≤ 65) [size, (-1), 65] i (by intro z hz; simp only [List.mem_cons, List.not_mem_nil, or_false] at hz; omega) i0 i1
              have hcw := lit_at rp hpk
              clear hpk
              go_simp
              refine hK.out _ _ ⟨mx6_0, mx6_1, mx6_2, mx6_3⟩ (fun hHeld => ?_)
              clear hK K
              try simp only [Act.put, List.getElem_toArray, List.getElem_cons_zero, List.getElem_cons_succ, List.setIfInBounds_toArray, List.set_cons_zero, List.set_cons_succ]
              refine wpAnyH_take (i := 11) (v := ?_) rfl (by kernel_rfl) (by kernel_rfl) (by kernel_rfl) (fun _ _ _ h => h) (Or.inl ⟨by rfl, ?_⟩) (by assumption) ?_
              rotate_left
              · (intro wz hSw; (try dsimp only at hSw); go_simp; try with_reducible rfl)
              simp only [Act.put, List.getElem_toArray, List.getElem_cons_zero, List.getElem_cons_succ, List.setIfInBounds_toArray, List.set_cons_zero, List.set_cons_succ]
              refine wpAnyH_done (by kernel_rfl) ?_ _
              refine NoPanic.normal ?_
              have ma1_0 : u10.cell? ⟨w.heap.size, 0, none⟩ = some (.int .i64 k) := cell_of_row _ _ 0 _ _ _ ra
              have ma1_1 : u10.cell? ⟨w.heap.size, 1, none⟩ = some (.int .i64 a) := cell_of_row _ _ 1 _ _ _ ra
              have ma1_2 : u10.cell? ⟨w.heap.size, 2, none⟩ = some (.int .i64 cc) := cell_of_row _ _ 2 _ _ _ ra
              have ma1_3 : u10.cell? ⟨w.heap.size, 3, none⟩ = some (.int .i64 v) := cell_of_row _ _ 3 _ _ _ ra
              go_wp2_with fail
              refine bodyPost_ret (v := .tuple #[.agg #[.int .i64 k, .int .i64 a, .int .i64 cc, .int .i64 v], .int .i64 y]) (by simp [results, Try.results8, go_sem, ma1_0, ma1_1, ma1_2, ma1_3]) rfl ?_
              exact ⟨k, a, cc, v, y, rfl, c4, hy, hB⟩
            exact AllReadyH.nil
          exact AllReadyH.nil
        exact AllReadyH.nil
      refine AllReadyH.cons rfl (fun K hK => ?_) ?_
      · have z9_0 := frzRow ra 0
        have z9_1 := frzRow ra 1
        have z9_2 := frzRow ra 2
        have z9_3 := frzRow ra 3
        have y9_0 : u8.cell? ⟨w.heap.size, 0, none⟩ = some (.int .i64 0) := cell_of_row _ _ 0 _ _ _ ra
        have y9_1 : u8.cell? ⟨w.heap.size, 1, none⟩ = some (.int .i64 0) := cell_of_row _ _ 1 _ _ _ ra
        have y9_2 : u8.cell? ⟨w.heap.size, 2, none⟩ = some (.int .i64 0) := cell_of_row _ _ 2 _ _ _ ra
        have y9_3 : u8.cell? ⟨w.heap.size, 3, none⟩ = some (.int .i64 0) := cell_of_row _ _ 3 _ _ _ ra
        replace rx := rowSet (rowSet (rowSet (rowSet (rx) ⟨w.heap.size, 0, none⟩ (.int .i64 k) (by show _ ≠ w.heap.size; omega)) ⟨w.heap.size, 1, none⟩ (.int .i64 a) (by show _ ≠ w.heap.size; omega)) ⟨w.heap.size, 2, none⟩ (.int .i64 cc) (by show _ ≠ w.heap.size; omega)) ⟨w.heap.size, 3, none⟩ (.int .i64 v) (by show _ ≠ w.heap.size; omega)
        replace rp := rowSet (rowSet (rowSet (rowSet (rp) ⟨w.heap.size, 0, none⟩ (.int .i64 k) (by show _ ≠ w.heap.size; omega)) ⟨w.heap.size, 1, none⟩ (.int .i64 a) (by show _ ≠ w.heap.size; omega)) ⟨w.heap.size, 2, none⟩ (.int .i64 cc) (by show _ ≠ w.heap.size; omega)) ⟨w.heap.size, 3, none⟩ (.int .i64 v) (by show _ ≠ w.heap.size; omega)
        replace ra := set43 (set42 (set41 (set40 (ra) (.int .i64 k)) (.int .i64 a)) (.int .i64 cc)) (.int .i64 v)
        clear hr
        replace hB := ((((hB).setCell (p := ⟨w.heap.size, 0, none⟩) (by show _ ≤ w.heap.size; omega) (.int .i64 k)).setCell (p := ⟨w.heap.size, 1, none⟩) (by show _ ≤ w.heap.size; omega) (.int .i64 a)).setCell (p := ⟨w.heap.size, 2, none⟩) (by show _ ≤ w.heap.size; omega) (.int .i64 cc)).setCell (p := ⟨w.heap.size, 3, none⟩) (by show _ ≤ w.heap.size; omega) (.int .i64 v)
        have s9 : u8.heap.size ≤ ((((u8.setCell ⟨w.heap.size, 0, none⟩ (.int .i64 k)).setCell ⟨w.heap.size, 1, none⟩ (.int .i64 a)).setCell ⟨w.heap.size, 2, none⟩ (.int .i64 cc)).setCell ⟨w.heap.size, 3, none⟩ (.int .i64 v)).heap.size := by simp only [World.size_setCell]; exact Nat.le_refl _
        have mx5_0 : ((((u8.setCell ⟨w.heap.size, 0, none⟩ (.int .i64 k)).setCell ⟨w.heap.size, 1, none⟩ (.int .i64 a)).setCell ⟨w.heap.size, 2, none⟩ (.int .i64 cc)).setCell ⟨w.heap.size, 3, none⟩ (.int .i64 v)).cell? ⟨w4.heap.size, 0, none⟩ = some (.int .i64 k) := cell_of_row _ _ 0 _ _ _ rx
        have mx5_1 : ((((u8.setCell ⟨w.heap.size, 0, none⟩ (.int .i64 k)).setCell ⟨w.heap.size, 1, none⟩ (.int .i64 a)).setCell ⟨w.heap.size, 2, none⟩ (.int .i64 cc)).setCell ⟨w.heap.size, 3, none⟩ (.int .i64 v)).cell? ⟨w4.heap.size, 1, none⟩ = some (.int .i64 a) := cell_of_row _ _ 1 _ _ _ rx
        have mx5_2 : ((((u8.setCell ⟨w.heap.size, 0, none⟩ (.int .i64 k)).setCell ⟨w.heap.size, 1, none⟩ (.int .i64 a)).setCell ⟨w.heap.size, 2, none⟩ (.int .i64 cc)).setCell ⟨w.heap.size, 3, none⟩ (.int .i64 v)).cell? ⟨w4.heap.size, 2, none⟩ = some (.int .i64 cc) := cell_of_row _ _ 2 _ _ _ rx
        have mx5_3 : ((((u8.setCell ⟨w.heap.size, 0, none⟩ (.int .i64 k)).setCell ⟨w.heap.size, 1, none⟩ (.int .i64 a)).setCell ⟨w.heap.size, 2, none⟩ (.int .i64 cc)).setCell ⟨w.heap.size, 3, none⟩ (.int .i64 v)).cell? ⟨w4.heap.size, 3, none⟩ = some (.int .i64 v) := cell_of_row _ _ 3 _ _ _ rx
        go_simp
        refine hK.out _ _ ⟨mx5_0, mx5_1, mx5_2, mx5_3⟩ (fun hHeld => ?_)
        clear z9_0 z9_1 z9_2 z9_3 y9_0 y9_1 y9_2 y9_3 mx4_0 mx4_1 mx4_2 mx4_3
        generalize ((((u8.setCell ⟨w.heap.size, 0, none⟩ (.int .i64 k)).setCell ⟨w.heap.size, 1, none⟩ (.int .i64 a)).setCell ⟨w.heap.size, 2, none⟩ (.int .i64 cc)).setCell ⟨w.heap.size, 3, none⟩ (.int .i64 v)) = u9 at *
        clear hK K
        try simp only [Act.put, List.getElem_toArray, List.getElem_cons_zero, List.getElem_cons_succ, List.setIfInBounds_toArray, List.set_cons_zero, List.set_cons_succ]
        refine wpAnyH_ready (rs := [3]) (by kernel_rfl) (by simp) ?_
        refine AllReadyH.cons rfl (fun K hK => ?_) ?_
        · have hn10 := below_new u9 (.cells #[.int .i64 0, .int .i64 0, .int .i64 0, .int .i64 0, .int .i64 0, .int .i64 1, .int .i64 2] 3)
          replace ra := rowKeep ra hn10
          replace rx := rowKeep rx hn10
          replace rp := rowKeep rp hn10
          replace hB := below_later hB hn10 (by omega)
          have mx6_0 : (u9.alloc (.cells #[.int .i64 0, .int .i64 0, .int .i64 0, .int .i64 0, .int .i64 0, .int .i64 1, .int .i64 2] 3)).cell? ⟨w4.heap.size, 0, none⟩ = some (.int .i64 k) := cell_of_row _ _ 0 _ _ _ rx
          have mx6_1 : (u9.alloc (.cells #[.int .i64 0, .int .i64 0, .int .i64 0, .int .i64 0, .int .i64 0, .int .i64 1, .int .i64 2] 3)).cell? ⟨w4.heap.size, 1, none⟩ = some (.int .i64 a) := cell_of_row _ _ 1 _ _ _ rx
          have mx6_2 : (u9.alloc (.cells #[.int .i64 0, .int .i64 0, .int .i64 0, .int .i64 0, .int .i64 0, .int .i64 1, .int .i64 2] 3)).cell? ⟨w4.heap.size, 2, none⟩ = some (.int .i64 cc) := cell_of_row _ _ 2 _ _ _ rx
          have mx6_3 : (u9.alloc (.cells #[.int .i64 0, .int .i64 0, .int .i64 0, .int .i64 0, .int .i64 0, .int .i64 1, .int .i64 2] 3)).cell? ⟨w4.heap.size, 3, none⟩ = some (.int .i64 v) := cell_of_row _ _ 3 _ _ _ rx
          clear hn10
          have s10 : u9.heap.size < (u9.alloc (.cells #[.int .i64 0, .int .i64 0, .int .i64 0, .int .i64 0, .int .i64 0, .int .i64 1, .int .i64 2] 3)).heap.size := Nat.lt_of_lt_of_eq (Nat.lt_succ_self _) (World.size_alloc _ _).symm
          have rq : (u9.alloc (.cells #[.int .i64 0, .int .i64 0, .int .i64 0, .int .i64 0, .int .i64 0, .int .i64 1, .int .i64 2] 3)).heap[u9.heap.size]? = some (.cells #[.int .i64 0, .int .i64 0, .int .i64 0, .int .i64 0, .int .i64 0, .int .i64 1, .int .i64 2] 3 (0, 0)) := by have q := heap_alloc_new u9 (.cells #[.int .i64 0, .int .i64 0, .int .i64 0, .int .i64 0, .int .i64 0, .int .i64 1, .int .i64 2] 3); (try simp only [World.size_alloc, World.size_setCell] at q); exact q
          go_simp
          refine hK.out _ _ ⟨mx6_0, mx6_1, mx6_2, mx6_3⟩ (fun hHeld => ?_)
          clear mx5_0 mx5_1 mx5_2 mx5_3
          generalize (u9.alloc (.cells #[.int .i64 0, .int .i64 0, .int .i64 0, .int .i64 0, .int .i64 0, .int .i64 1, .int .i64 2] 3)) = u10 at *
          clear hK K
          try simp only [Act.put, List.getElem_toArray, List.getElem_cons_zero, List.getElem_cons_succ, List.setIfInBounds_toArray, List.set_cons_zero, List.set_cons_succ]
          refine wpAnyH_take (i := 6) (v := ?_) rfl (by kernel_rfl) (by kernel_rfl) (by kernel_rfl) (fun _ _ _ h => h) (Or.inl ⟨by rfl, ?_⟩) (by assumption) ?_
          rotate_left
          · (intro wz hSw; (try dsimp only at hSw); go_simp; try with_reducible rfl)
          simp only [Act.put, List.getElem_toArray, List.getElem_cons_zero, List.getElem_cons_succ, List.setIfInBounds_toArray, List.set_cons_zero, List.set_cons_succ]
          refine wpAnyH_ready (rs := [7]) (by kernel_rfl) (by simp) ?_
          refine AllReadyH.cons rfl (fun K hK => ?_) ?_
          · obtain ⟨i, hi, hpk⟩ := pickL (fun x => 0 ≤ x ∧ x < 3) [0, 0, 0, 0, 0, 1, 2] j (by decide) j0 j1
            obtain ⟨i0, i1⟩ := hi
            have hcv := lit_at rq hpk
            clear hpk
            go_simp
            refine hK.out _ _ ⟨mx6_0, mx6_1, mx6_2, mx6_3⟩ (fun hHeld => ?_)
            clear hK K
            try simp only [Act.put, List.getElem_toArray, List.getElem_cons_zero, List.getElem_cons_succ, List.setIfInBounds_toArray, List.set_cons_zero, List.set_cons_succ]
            refine wpAnyH_take (i := 8) (v := ?_) rfl (by kernel_rfl) (by kernel_rfl) (by kernel_rfl) (fun _ _ _ h => h) (Or.inl ⟨by rfl, ?_⟩) (by assumption) ?_
            rotate_left
            · (intro wz hSw; (try dsimp only at hSw); go_simp; try with_reducible rfl)
            simp only [Act.put, List.getElem_toArray, List.getElem_cons_zero, List.getElem_cons_succ, List.setIfInBounds_toArray, List.set_cons_zero, List.set_cons_succ]
            refine wpAnyH_ready (rs := [9]) (by kernel_rfl) (by simp) ?_
            refine AllReadyH.cons rfl (fun K hK => ?_) ?_
            · obtain ⟨y, hy, hpk⟩ := pickL (fun x => -1 ≤ x ∧ x ≤ 65) [size, (-1), 65] i (by intro z hz; simp only [List.mem_cons, List.not_mem_nil, or_false] at hz; omega) i0 i1
              have hcw := lit_at rp hpk
              clear hpk
              go_simp
              refine hK.out _ _ ⟨mx6_0, mx6_1, mx6_2, mx6_3⟩ (fun hHeld => ?_)
              clear hK K
              try simp only [Act.put, List.getElem_toArray, List.getElem_cons_zero, List.getElem_cons_succ, List.setIfInBounds_toArray, List.set_cons_zero, List.set_cons_succ]
              refine wpAnyH_take (i := 11) (v := ?_) rfl (by kernel_rfl) (by kernel_rfl) (by kernel_rfl) (fun _ _ _ h => h) (Or.inl ⟨by rfl, ?_⟩) (by assumption) ?_
              rotate_left
              · (intro wz hSw; (try dsimp only at hSw); go_simp; try with_reducible rfl)
              simp only [Act.put, List.getElem_toArray, List.getElem_cons_zero, List.getElem_cons_succ, List.setIfInBounds_toArray, List.set_cons_zero, List.set_cons_succ]
              refine wpAnyH_done (by kernel_rfl) ?_ _
              refine NoPanic.normal ?_
              have ma1_0 : u10.cell? ⟨w.heap.size, 0, none⟩ = some (.int .i64 k) := cell_of_row _ _ 0 _ _ _ ra
              have ma1_1 : u10.cell? ⟨w.heap.size, 1, none⟩ = some (.int .i64 a) := cell_of_row _ _ 1 _ _ _ ra
              have ma1_2 : u10.cell? ⟨w.heap.size, 2, none⟩ = some (.int .i64 cc) := cell_of_row _ _ 2 _ _ _ ra
              have ma1_3 : u10.cell? ⟨w.heap.size, 3, none⟩ = some (.int .i64 v) := cell_of_row _ _ 3 _ _ _ ra
              go_wp2_with fail
              refine bodyPost_ret (v := .tuple #[.agg #[.int .i64 k, .int .i64 a, .int .i64 cc, .int .i64 v], .int .i64 y]) (by simp [results, Try.results8, go_sem, ma1_0, ma1_1, ma1_2, ma1_3]) rfl ?_
              exact ⟨k, a, cc, v, y, rfl, c4, hy, hB⟩
            exact AllReadyH.nil
          exact AllReadyH.nil
        exact AllReadyH.nil
      exact AllReadyH.nil
    refine AllReadyH.cons rfl (fun K hK => ?_) ?_
    · have hn8 := below_new w7 (.cells #[.int .i64 0, .int .i64 0, .int .i64 0, .int .i64 0, .int .i64 0, .int .i64 1, .int .i64 2] 3)
      replace ra := rowKeep ra hn8
      replace rx := rowKeep rx hn8
      replace hr := hr.below hn8
      replace hB := below_later hB hn8 (by omega)
      have mx4_0 : (w7.alloc (.cells #[.int .i64 0, .int .i64 0, .int .i64 0, .int .i64 0, .int .i64 0, .int .i64 1, .int .i64 2] 3)).cell? ⟨w4.heap.size, 0, none⟩ = some (.int .i64 k) := cell_of_row _ _ 0 _ _ _ rx
      have mx4_1 : (w7.alloc (.cells #[.int .i64 0, .int .i64 0, .int .i64 0, .int .i64 0, .int .i64 0, .int .i64 1, .int .i64 2] 3)).cell? ⟨w4.heap.size, 1, none⟩ = some (.int .i64 a) := cell_of_row _ _ 1 _ _ _ rx
      have mx4_2 : (w7.alloc (.cells #[.int .i64 0, .int .i64 0, .int .i64 0, .int .i64 0, .int .i64 0, .int .i64 1, .int .i64 2] 3)).cell? ⟨w4.heap.size, 2, none⟩ = some (.int .i64 cc) := cell_of_row _ _ 2 _ _ _ rx
      have mx4_3 : (w7.alloc (.cells #[.int .i64 0, .int .i64 0, .int .i64 0, .int .i64 0, .int .i64 0, .int .i64 1, .int .i64 2] 3)).cell? ⟨w4.heap.size, 3, none⟩ = some (.int .i64 v) := cell_of_row _ _ 3 _ _ _ rx
      clear hn8
      have s8 : w7.heap.size < (w7.alloc (.cells #[.int .i64 0, .int .i64 0, .int .i64 0, .int .i64 0, .int .i64 0, .int .i64 1, .int .i64 2] 3)).heap.size := Nat.lt_of_lt_of_eq (Nat.lt_succ_self _) (World.size_alloc _ _).symm
      have rq : (w7.alloc (.cells #[.int .i64 0, .int .i64 0, .int .i64 0, .int .i64 0, .int .i64 0, .int .i64 1, .int .i64 2] 3)).heap[w7.heap.size]? = some (.cells #[.int .i64 0, .int .i64 0, .int .i64 0, .int .i64 0, .int .i64 0, .int .i64 1, .int .i64 2] 3 (0, 0)) := by have q := heap_alloc_new w7 (.cells #[.int .i64 0, .int .i64 0, .int .i64 0, .int .i64 0, .int .i64 0, .int .i64 1, .int .i64 2] 3); (try simp only [World.size_alloc, World.size_setCell] at q); exact q
      go_simp
      refine hK.out _ _ ⟨mx4_0, mx4_1, mx4_2, mx4_3⟩ (fun hHeld => ?_)
      clear mx3_0 mx3_1 mx3_2 mx3_3
      generalize (w7.alloc (.cells #[.int .i64 0, .int .i64 0, .int .i64 0, .int .i64 0, .int .i64 0, .int .i64 1, .int .i64 2] 3)) = u8 at *
      clear hK K
      try simp only [Act.put, List.getElem_toArray, List.getElem_cons_zero, List.getElem_cons_succ, List.setIfInBounds_toArray, List.set_cons_zero, List.set_cons_succ]
      refine wpAnyH_take (i := 6) (v := ?_) rfl (by kernel_rfl) (by kernel_rfl) (by kernel_rfl) (fun _ _ _ h => h) (Or.inl ⟨by rfl, ?_⟩) (by assumption) ?_
      rotate_left
      · (intro wz hSw; (try dsimp only at hSw); go_simp; try with_reducible rfl)
      simp only [Act.put, List.getElem_toArray, List.getElem_cons_zero, List.getElem_cons_succ, List.setIfInBounds_toArray, List.set_cons_zero, List.set_cons_succ]
      refine wpAnyH_ready (rs := [2, 7, 10]) (by kernel_rfl) (by simp) ?_
      refine AllReadyH.cons rfl (fun K hK => ?_) ?_
      · have hn9 := below_new u8 (.cells #[.int .i64 size, .int .i64 (-1), .int .i64 65] 3)
        replace ra := rowKeep ra hn9
        replace rx := rowKeep rx hn9
        replace rq := rowKeep rq hn9
        replace hr := hr.below hn9
        replace hB := below_later hB hn9 (by omega)
        have mx5_0 : (u8.alloc (.cells #[.int .i64 size, .int .i64 (-1), .int .i64 65] 3)).cell? ⟨w4.heap.size, 0, none⟩ = some (.int .i64 k) := cell_of_row _ _ 0 _ _ _ rx
        have mx5_1 : (u8.alloc (.cells #[.int .i64 size, .int .i64 (-1), .int .i64 65] 3)).cell? ⟨w4.heap.size, 1, none⟩ = some (.int .i64 a) := cell_of_row _ _ 1 _ _ _ rx
        have mx5_2 : (u8.alloc (.cells #[.int .i64 size, .int .i64 (-1), .int .i64 65] 3)).cell? ⟨w4.heap.size, 2, none⟩ = some (.int .i64 cc) := cell_of_row _ _ 2 _ _ _ rx
        have mx5_3 : (u8.alloc (.cells #[.int .i64 size, .int .i64 (-1), .int .i64 65] 3)).cell? ⟨w4.heap.size, 3, none⟩ = some (.int .i64 v) := cell_of_row _ _ 3 _ _ _ rx
        clear hn9
        have s9 : u8.heap.size < (u8.alloc (.cells #[.int .i64 size, .int .i64 (-1), .int .i64 65] 3)).heap.size := Nat.lt_of_lt_of_eq (Nat.lt_succ_self _) (World.size_alloc _ _).symm
        have rp : (u8.alloc (.cells #[.int .i64 size, .int .i64 (-1), .int .i64 65] 3)).heap[u8.heap.size]? = some (.cells #[.int .i64 size, .int .i64 (-1), .int .i64 65] 3 (0, 0)) := by have q := heap_alloc_new u8 (.cells #[.int .i64 size, .int .i64 (-1), .int .i64 65] 3); (try simp only [World.size_alloc, World.size_setCell] at q); exact q
        go_simp
        refine hK.out _ _ ⟨mx5_0, mx5_1, mx5_2, mx5_3⟩ (fun hHeld => ?_)
        clear mx4_0 mx4_1 mx4_2 mx4_3
        generalize (u8.alloc (.cells #[.int .i64 size, .int .i64 (-1), .int .i64 65] 3)) = u9 at *
        clear hK K
        try simp only [Act.put, List.getElem_toArray, List.getElem_cons_zero, List.getElem_cons_succ, List.setIfInBounds_toArray, List.set_cons_zero, List.set_cons_succ]
        refine wpAnyH_ready (rs := [7, 10]) (by kernel_rfl) (by simp) ?_
        refine AllReadyH.cons rfl (fun K hK => ?_) ?_
        · obtain ⟨i, hi, hpk⟩ := pickL (fun x => 0 ≤ x ∧ x < 3) [0, 0, 0, 0, 0, 1, 2] j (by decide) j0 j1
          obtain ⟨i0, i1⟩ := hi
          have hcv := lit_at rq hpk
          clear hpk
          go_simp
          refine hK.out _ _ ⟨mx5_0, mx5_1, mx5_2, mx5_3⟩ (fun hHeld => ?_)
          clear hK K
          try simp only [Act.put, List.getElem_toArray, List.getElem_cons_zero, List.getElem_cons_succ, List.setIfInBounds_toArray, List.set_cons_zero, List.set_cons_succ]
          refine wpAnyH_take (i := 8) (v := ?_) rfl (by kernel_rfl) (by kernel_rfl) (by kernel_rfl) (fun _ _ _ h => h) (Or.inl ⟨by rfl, ?_⟩) (by assumption) ?_
          rotate_left
          · (intro wz hSw; (try dsimp only at hSw); go_simp; try with_reducible rfl)
          simp only [Act.put, List.getElem_toArray, List.getElem_cons_zero, List.getElem_cons_succ, List.setIfInBounds_toArray, List.set_cons_zero, List.set_cons_succ]
          refine wpAnyH_ready (rs := [9, 10]) (by kernel_rfl) (by simp) ?_
          refine AllReadyH.cons rfl (fun K hK => ?_) ?_
          · obtain ⟨y, hy, hpk⟩ := pickL (fun x => -1 ≤ x ∧ x ≤ 65) [size, (-1), 65] i (by intro z hz; simp only [List.mem_cons, List.not_mem_nil, or_false] at hz; omega) i0 i1
            have hcw := lit_at rp hpk
            clear hpk
            go_simp
            refine hK.out _ _ ⟨mx5_0, mx5_1, mx5_2, mx5_3⟩ (fun hHeld => ?_)
            clear hK K
            try simp only [Act.put, List.getElem_toArray, List.getElem_cons_zero, List.getElem_cons_succ, List.setIfInBounds_toArray, List.set_cons_zero, List.set_cons_succ]
            refine wpAnyH_ready (rs := [10]) (by kernel_rfl) (by simp) ?_
            refine AllReadyH.cons rfl (fun K hK => ?_) ?_
            · have z10_0 := frzRow ra 0
              have z10_1 := frzRow ra 1
              have z10_2 := frzRow ra 2
              have z10_3 := frzRow ra 3
              have y10_0 : u9.cell? ⟨w.heap.size, 0, none⟩ = some (.int .i64 0) := cell_of_row _ _ 0 _ _ _ ra
              have y10_1 : u9.cell? ⟨w.heap.size, 1, none⟩ = some (.int .i64 0) := cell_of_row _ _ 1 _ _ _ ra
              have y10_2 : u9.cell? ⟨w.heap.size, 2, none⟩ = some (.int .i64 0) := cell_of_row _ _ 2 _ _ _ ra
              have y10_3 : u9.cell? ⟨w.heap.size, 3, none⟩ = some (.int .i64 0) := cell_of_row _ _ 3 _ _ _ ra
              replace rx := rowSet (rowSet (rowSet (rowSet (rx) ⟨w.heap.size, 0, none⟩ (.int .i64 k) (by show _ ≠ w.heap.size; omega)) ⟨w.heap.size, 1, none⟩ (.int .i64 a) (by show _ ≠ w.heap.size; omega)) ⟨w.heap.size, 2, none⟩ (.int .i64 cc) (by show _ ≠ w.heap.size; omega)) ⟨w.heap.size, 3, none⟩ (.int .i64 v) (by show _ ≠ w.heap.size; omega)
              replace rq := rowSet (rowSet (rowSet (rowSet (rq) ⟨w.heap.size, 0, none⟩ (.int .i64 k) (by show _ ≠ w.heap.size; omega)) ⟨w.heap.size, 1, none⟩ (.int .i64 a) (by show _ ≠ w.heap.size; omega)) ⟨w.heap.size, 2, none⟩ (.int .i64 cc) (by show _ ≠ w.heap.size; omega)) ⟨w.heap.size, 3, none⟩ (.int .i64 v) (by show _ ≠ w.heap.size; omega)
              replace rp := rowSet (rowSet (rowSet (rowSet (rp) ⟨w.heap.size, 0, none⟩ (.int .i64 k) (by show _ ≠ w.heap.size; omega)) ⟨w.heap.size, 1, none⟩ (.int .i64 a) (by show _ ≠ w.heap.size; omega)) ⟨w.heap.size, 2, none⟩ (.int .i64 cc) (by show _ ≠ w.heap.size; omega)) ⟨w.heap.size, 3, none⟩ (.int .i64 v) (by show _ ≠ w.heap.size; omega)
              replace ra := set43 (set42 (set41 (set40 (ra) (.int .i64 k)) (.int .i64 a)) (.int .i64 cc)) (.int .i64 v)
              clear hr
              replace hB := ((((hB).setCell (p := ⟨w.heap.size, 0, none⟩) (by show _ ≤ w.heap.size; omega) (.int .i64 k)).setCell (p := ⟨w.heap.size, 1, none⟩) (by show _ ≤ w.heap.size; omega) (.int .i64 a)).setCell (p := ⟨w.heap.size, 2, none⟩) (by show _ ≤ w.heap.size; omega) (.int .i64 cc)).setCell (p := ⟨w.heap.size, 3, none⟩) (by show _ ≤ w.heap.size; omega) (.int .i64 v)
              have s10 : u9.heap.size ≤ ((((u9.setCell ⟨w.heap.size, 0, none⟩ (.int .i64 k)).setCell ⟨w.heap.size, 1, none⟩ (.int .i64 a)).setCell ⟨w.heap.size, 2, none⟩ (.int .i64 cc)).setCell ⟨w.heap.size, 3, none⟩ (.int .i64 v)).heap.size := by simp only [World.size_setCell]; exact Nat.le_refl _
              have mx6_0 : ((((u9.setCell ⟨w.heap.size, 0, none⟩ (.int .i64 k)).setCell ⟨w.heap.size, 1, none⟩ (.int .i64 a)).setCell ⟨w.heap.size, 2, none⟩ (.int .i64 cc)).setCell ⟨w.heap.size, 3, none⟩ (.int .i64 v)).cell? ⟨w4.heap.size, 0, none⟩ = some (.int .i64 k) := cell_of_row _ _ 0 _ _ _ rx
              have mx6_1 : ((((u9.setCell ⟨w.heap.size, 0, none⟩ (.int .i64 k)).setCell ⟨w.heap.size, 1, none⟩ (.int .i64 a)).setCell ⟨w.heap.size, 2, none⟩ (.int .i64 cc)).setCell ⟨w.heap.size, 3, none⟩ (.int .i64 v)).cell? ⟨w4.heap.size, 1, none⟩ = some (.int .i64 a) := cell_of_row _ _ 1 _ _ _ rx
              have mx6_2 : ((((u9.setCell ⟨w.heap.size, 0, none⟩ (.int .i64 k)).setCell ⟨w.heap.size, 1, none⟩ (.int .i64 a)).setCell ⟨w.heap.size, 2, none⟩ (.int .i64 cc)).setCell ⟨w.heap.size, 3, none⟩ (.int .i64 v)).cell? ⟨w4.heap.size, 2, none⟩ = some (.int .i64 cc) := cell_of_row _ _ 2 _ _ _ rx
              have mx6_3 : ((((u9.setCell ⟨w.heap.size, 0, none⟩ (.int .i64 k)).setCell ⟨w.heap.size, 1, none⟩ (.int .i64 a)).setCell ⟨w.heap.size, 2, none⟩ (.int .i64 cc)).setCell ⟨w.heap.size, 3, none⟩ (.int .i64 v)).cell? ⟨w4.heap.size, 3, none⟩ = some (.int .i64 v) := cell_of_row _ _ 3 _ _ _ rx
              go_simp
              refine hK.out _ _ ⟨mx6_0, mx6_1, mx6_2, mx6_3⟩ (fun hHeld => ?_)
              clear z10_0 z10_1 z10_2 z10_3 y10_0 y10_1 y10_2 y10_3 mx5_0 mx5_1 mx5_2 mx5_3
              generalize ((((u9.setCell ⟨w.heap.size, 0, none⟩ (.int .i64 k)).setCell ⟨w.heap.size, 1, none⟩ (.int .i64 a)).setCell ⟨w.heap.size, 2, none⟩ (.int .i64 cc)).setCell ⟨w.heap.size, 3, none⟩ (.int .i64 v)) = u10 at *
              clear hK K
              try simp only [Act.put, List.getElem_toArray, List.getElem_cons_zero, List.getElem_cons_succ, List.setIfInBounds_toArray, List.set_cons_zero, List.set_cons_succ]
              refine wpAnyH_take (i := 11) (v := ?_) rfl (by kernel_rfl) (by kernel_rfl) (by kernel_rfl) (fun _ _ _ h => h) (Or.inl ⟨by rfl, ?_⟩) (by assumption) ?_
              rotate_left
              · (intro wz hSw; (try dsimp only at hSw); go_simp; try with_reducible rfl)
              simp only [Act.put, List.getElem_toArray, List.getElem_cons_zero, List.getElem_cons_succ, List.setIfInBounds_toArray, List.set_cons_zero, List.set_cons_succ]
              refine wpAnyH_done (by kernel_rfl) ?_ _
              refine NoPanic.normal ?_
              have ma1_0 : u10.cell? ⟨w.heap.size, 0, none⟩ = some (.int .i64 k) := cell_of_row _ _ 0 _ _ _ ra
              have ma1_1 : u10.cell? ⟨w.heap.size, 1, none⟩ = some (.int .i64 a) := cell_of_row _ _ 1 _ _ _ ra
              have ma1_2 : u10.cell? ⟨w.heap.size, 2, none⟩ = some (.int .i64 cc) := cell_of_row _ _ 2 _ _ _ ra
              have ma1_3 : u10.cell? ⟨w.heap.size, 3, none⟩ = some (.int .i64 v) := cell_of_row _ _ 3 _ _ _ ra
              go_wp2_with fail
              refine bodyPost_ret (v := .tuple #[.agg #[.int .i64 k, .int .i64 a, .int .i64 cc, .int .i64 v], .int .i64 y]) (by simp [results, Try.results8, go_sem, ma1_0, ma1_1, ma1_2, ma1_3]) rfl ?_
              exact ⟨k, a, cc, v, y, rfl, c4, hy, hB⟩
            exact AllReadyH.nil
          refine AllReadyH.cons rfl (fun K hK => ?_) ?_
          · have z10_0 := frzRow ra 0
            have z10_1 := frzRow ra 1
            have z10_2 := frzRow ra 2
            have z10_3 := frzRow ra 3
            have y10_0 : u9.cell? ⟨w.heap.size, 0, none⟩ = some (.int .i64 0) := cell_of_row _ _ 0 _ _ _ ra
            have y10_1 : u9.cell? ⟨w.heap.size, 1, none⟩ = some (.int .i64 0) := cell_of_row _ _ 1 _ _ _ ra
            have y10_2 : u9.cell? ⟨w.heap.size, 2, none⟩ = some (.int .i64 0) := cell_of_row _ _ 2 _ _ _ ra
            have y10_3 : u9.cell? ⟨w.heap.size, 3, none⟩ = some (.int .i64 0) := cell_of_row _ _ 3 _ _ _ ra
            replace rx := rowSet (rowSet (rowSet (rowSet (rx) ⟨w.heap.size, 0, none⟩ (.int .i64 k) (by show _ ≠ w.heap.size; omega)) ⟨w.heap.size, 1, none⟩ (.int .i64 a) (by show _ ≠ w.heap.size; omega)) ⟨w.heap.size, 2, none⟩ (.int .i64 cc) (by show _ ≠ w.heap.size; omega)) ⟨w.heap.size, 3, none⟩ (.int .i64 v) (by show _ ≠ w.heap.size; omega)
            replace rq := rowSet (rowSet (rowSet (rowSet (rq) ⟨w.heap.size, 0, none⟩ (.int .i64 k) (by show _ ≠ w.heap.size; omega)) ⟨w.heap.size, 1, none⟩ (.int .i64 a) (by show _ ≠ w.heap.size; omega)) ⟨w.heap.size, 2, none⟩ (.int .i64 cc) (by show _ ≠ w.heap.size; omega)) ⟨w.heap.size, 3, none⟩ (.int .i64 v) (by show _ ≠ w.heap.size; omega)
            replace rp := rowSet (rowSet (rowSet (rowSet (rp) ⟨w.heap.size, 0, none⟩ (.int .i64 k) (by show _ ≠ w.heap.size; omega)) ⟨w.heap.size, 1, none⟩ (.int .i64 a) (by show _ ≠ w.heap.size; omega)) ⟨w.heap.size, 2, none⟩ (.int .i64 cc) (by show _ ≠ w.heap.size; omega)) ⟨w.heap.size, 3, none⟩ (.int .i64 v) (by show _ ≠ w.heap.size; omega)
            replace ra := set43 (set42 (set41 (set40 (ra) (.int .i64 k)) (.int .i64 a)) (.int .i64 cc)) (.int .i64 v)
            clear hr
            replace hB := ((((hB).setCell (p := ⟨w.heap.size, 0, none⟩) (by show _ ≤ w.heap.size; omega) (.int .i64 k)).setCell (p := ⟨w.heap.size, 1, none⟩) (by show _ ≤ w.heap.size; omega) (.int .i64 a)).setCell (p := ⟨w.heap.size, 2, none⟩) (by show _ ≤ w.heap.size; omega) (.int .i64 cc)).setCell (p := ⟨w.heap.size, 3, none⟩) (by show _ ≤ w.heap.size; omega) (.int .i64 v)
            have s10 : u9.heap.size ≤ ((((u9.setCell ⟨w.heap.size, 0, none⟩ (.int .i64 k)).setCell ⟨w.heap.size, 1, none⟩ (.int .i64 a)).setCell ⟨w.heap.size, 2, none⟩ (.int .i64 cc)).setCell ⟨w.heap.size, 3, none⟩ (.int .i64 v)).heap.size := by simp only [World.size_setCell]; exact Nat.le_refl _
            have mx6_0 : ((((u9.setCell ⟨w.heap.size, 0, none⟩ (.int .i64 k)).setCell ⟨w.heap.size, 1, none⟩ (.int .i64 a)).setCell ⟨w.heap.size, 2, none⟩ (.int .i64 cc)).setCell ⟨w.heap.size, 3, none⟩ (.int .i64 v)).cell? ⟨w4.heap.size, 0, none⟩ = some (.int .i64 k) := cell_of_row _ _ 0 _ _ _ rx
            have mx6_1 : ((((u9.setCell ⟨w.heap.size, 0, none⟩ (.int .i64 k)).setCell ⟨w.heap.size, 1, none⟩ (.int .i64 a)).setCell ⟨w.heap.size, 2, none⟩ (.int .i64 cc)).setCell ⟨w.heap.size, 3, none⟩ (.int .i64 v)).cell? ⟨w4.heap.size, 1, none⟩ = some (.int .i64 a) := cell_of_row _ _ 1 _ _ _ rx
            have mx6_2 : ((((u9.setCell ⟨w.heap.size, 0, none⟩ (.int .i64 k)).setCell ⟨w.heap.size, 1, none⟩ (.int .i64 a)).setCell ⟨w.heap.size, 2, none⟩ (.int .i64 cc)).setCell ⟨w.heap.size, 3, none⟩ (.int .i64 v)).cell? ⟨w4.heap.size, 2, none⟩ = some (.int .i64 cc) := cell_of_row _ _ 2 _ _ _ rx
            have mx6_3 : ((((u9.setCell ⟨w.heap.size, 0, none⟩ (.int .i64 k)).setCell ⟨w.heap.size, 1, none⟩ (.int .i64 a)).setCell ⟨w.heap.size, 2, none⟩ (.int .i64 cc)).setCell ⟨w.heap.size, 3, none⟩ (.int .i64 v)).cell? ⟨w4.heap.size, 3, none⟩ = some (.int .i64 v) := cell_of_row _ _ 3 _ _ _ rx
            go_simp
            refine hK.out _ _ ⟨mx6_0, mx6_1, mx6_2, mx6_3⟩ (fun hHeld => ?_)
            clear z10_0 z10_1 z10_2 z10_3 y10_0 y10_1 y10_2 y10_3 mx5_0 mx5_1 mx5_2 mx5_3
            generalize ((((u9.setCell ⟨w.heap.size, 0, none⟩ (.int .i64 k)).setCell ⟨w.heap.size, 1, none⟩ (.int .i64 a)).setCell ⟨w.heap.size, 2, none⟩ (.int .i64 cc)).setCell ⟨w.heap.size, 3, none⟩ (.int .i64 v)) = u10 at *
            clear hK K
            try simp only [Act.put, List.getElem_toArray, List.getElem_cons_zero, List.getElem_cons_succ, List.setIfInBounds_toArray, List.set_cons_zero, List.set_cons_succ]
            refine wpAnyH_ready (rs := [9]) (by kernel_rfl) (by simp) ?_
            refine AllReadyH.cons rfl (fun K hK => ?_) ?_
            · obtain ⟨y, hy, hpk⟩ := pickL (fun x => -1 ≤ x ∧ x ≤ 65) [size, (-1), 65] i (by intro z hz; simp only [List.mem_cons, List.not_mem_nil, or_false] at hz; omega) i0 i1
              have hcw := lit_at rp hpk
              clear hpk
              go_simp
              refine hK.out _ _ ⟨mx6_0, mx6_1, mx6_2, mx6_3⟩ (fun hHeld => ?_)
              clear hK K
              try simp only [Act.put, List.getElem_toArray, List.getElem_cons_zero, List.getElem_cons_succ, List.setIfInBounds_toArray, List.set_cons_zero, List.set_cons_succ]
              refine wpAnyH_take (i := 11) (v := ?_) rfl (by kernel_rfl) (by kernel_rfl) (by kernel_rfl) (fun _ _ _ h => h) (Or.inl ⟨by rfl, ?_⟩) (by assumption) ?_
              rotate_left
              · (intro wz hSw; (try dsimp only at hSw); go_simp; try with_reducible rfl)
              simp only [Act.put, List.getElem_toArray, List.getElem_cons_zero, List.getElem_cons_succ, List.setIfInBounds_toArray, List.set_cons_zero, List.set_cons_succ]
              refine wpAnyH_done (by kernel_rfl) ?_ _
              refine NoPanic.normal ?_
              have ma1_0 : u10.cell? ⟨w.heap.size, 0, none⟩ = some (.int .i64 k) := cell_of_row _ _ 0 _ _ _ ra
              have ma1_1 : u10.cell? ⟨w.heap.size, 1, none⟩ = some (.int .i64 a) := cell_of_row _ _ 1 _ _ _ ra
              have ma1_2 : u10.cell? ⟨w.heap.size, 2, none⟩ = some (.int .i64 cc) := cell_of_row _ _ 2 _ _ _ ra
              have ma1_3 : u10.cell? ⟨w.heap.size, 3, none⟩ = some (.int .i64 v) := cell_of_row _ _ 3 _ _ _ ra
              go_wp2_with fail
              refine bodyPost_ret (v := .tuple #[.agg #[.int .i64 k, .int .i64 a, .int .i64 cc, .int .i64 v], .int .i64 y]) (by simp [results, Try.results8, go_sem, ma1_0, ma1_1, ma1_2, ma1_3]) rfl ?_
              exact ⟨k, a, cc, v, y, rfl, c4, hy, hB⟩
            exact AllReadyH.nil
          exact AllReadyH.nil
        refine AllReadyH.cons rfl (fun K hK => ?_) ?_
        · have z10_0 := frzRow ra 0
          have z10_1 := frzRow ra 1
          have z10_2 := frzRow ra 2
          have z10_3 := frzRow ra 3
          have y10_0 : u9.cell? ⟨w.heap.size, 0, none⟩ = some (.int .i64 0) := cell_of_row _ _ 0 _ _ _ ra
          have y10_1 : u9.cell? ⟨w.heap.size, 1, none⟩ = some (.int .i64 0) := cell_of_row _ _ 1 _ _ _ ra
          have y10_2 : u9.cell? ⟨w.heap.size, 2, none⟩ = some (.int .i64 0) := cell_of_row _ _ 2 _ _ _ ra
          have y10_3 : u9.cell? ⟨w.heap.size, 3, none⟩ = some (.int .i64 0) := cell_of_row _ _ 3 _ _ _ ra
          replace rx := rowSet (rowSet (rowSet (rowSet (rx) ⟨w.heap.size, 0, none⟩ (.int .i64 k) (by show _ ≠ w.heap.size; omega)) ⟨w.heap.size, 1, none⟩ (.int .i64 a) (by show _ ≠ w.heap.size; omega)) ⟨w.heap.size, 2, none⟩ (.int .i64 cc) (by show _ ≠ w.heap.size; omega)) ⟨w.heap.size, 3, none⟩ (.int .i64 v) (by show _ ≠ w.heap.size; omega)
          replace rq := rowSet (rowSet (rowSet (rowSet (rq) ⟨w.heap.size, 0, none⟩ (.int .i64 k) (by show _ ≠ w.heap.size; omega)) ⟨w.heap.size, 1, none⟩ (.int .i64 a) (by show _ ≠ w.heap.size; omega)) ⟨w.heap.size, 2, none⟩ (.int .i64 cc) (by show _ ≠ w.heap.size; omega)) ⟨w.heap.size, 3, none⟩ (.int .i64 v) (by show _ ≠ w.heap.size; omega)
          replace rp := rowSet (rowSet (rowSet (rowSet (rp) ⟨w.heap.size, 0, none⟩ (.int .i64 k) (by show _ ≠ w.heap.size; omega)) ⟨w.heap.size, 1, none⟩ (.int .i64 a) (by show _ ≠ w.heap.size; omega)) ⟨w.heap.size, 2, none⟩ (.int .i64 cc) (by show _ ≠ w.heap.size; omega)) ⟨w.heap.size, 3, none⟩ (.int .i64 v) (by show _ ≠ w.heap.size; omega)
          replace ra := set43 (set42 (set41 (set40 (ra) (.int .i64 k)) (.int .i64 a)) (.int .i64 cc)) (.int .i64 v)
          clear hr
          replace hB := ((((hB).setCell (p := ⟨w.heap.size, 0, none⟩) (by show _ ≤ w.heap.size; omega) (.int .i64 k)).setCell (p := ⟨w.heap.size, 1, none⟩) (by show _ ≤ w.heap.size; omega) (.int .i64 a)).setCell (p := ⟨w.heap.size, 2, none⟩) (by show _ ≤ w.heap.size; omega) (.int .i64 cc)).setCell (p := ⟨w.heap.size, 3, none⟩) (by show _ ≤ w.heap.size; omega) (.int .i64 v)
          have s10 : u9.heap.size ≤ ((((u9.setCell ⟨w.heap.size, 0, none⟩ (.int .i64 k)).setCell ⟨w.heap.size, 1, none⟩ (.int .i64 a)).setCell ⟨w.heap.size, 2, none⟩ (.int .i64 cc)).setCell ⟨w.heap.size, 3, none⟩ (.int .i64 v)).heap.size := by simp only [World.size_setCell]; exact Nat.le_refl _
          have mx6_0 : ((((u9.setCell ⟨w.heap.size, 0, none⟩ (.int .i64 k)).setCell ⟨w.heap.size, 1, none⟩ (.int .i64 a)).setCell ⟨w.heap.size, 2, none⟩ (.int .i64 cc)).setCell ⟨w.heap.size, 3, none⟩ (.int .i64 v)).cell? ⟨w4.heap.size, 0, none⟩ = some (.int .i64 k) := cell_of_row _ _ 0 _ _ _ rx
          have mx6_1 : ((((u9.setCell ⟨w.heap.size, 0, none⟩ (.int .i64 k)).setCell ⟨w.heap.size, 1, none⟩ (.int .i64 a)).setCell ⟨w.heap.size, 2, none⟩ (.int .i64 cc)).setCell ⟨w.heap.size, 3, none⟩ (.int .i64 v)).cell? ⟨w4.heap.size, 1, none⟩ = some (.int .i64 a) := cell_of_row _ _ 1 _ _ _ rx
          have mx6_2 : ((((u9.setCell ⟨w.heap.size, 0, none⟩ (.int .i64 k)).setCell ⟨w.heap.size, 1, none⟩ (.int .i64 a)).setCell ⟨w.heap.size, 2, none⟩ (.int .i64 cc)).setCell ⟨w.heap.size, 3, none⟩ (.int .i64 v)).cell? ⟨w4.heap.size, 2, none⟩ = some (.int .i64 cc) := cell_of_row _ _ 2 _ _ _ rx
          have mx6_3 : ((((u9.setCell ⟨w.heap.size, 0, none⟩ (.int .i64 k)).setCell ⟨w.heap.size, 1, none⟩ (.int .i64 a)).setCell ⟨w.heap.size, 2, none⟩ (.int .i64 cc)).setCell ⟨w.heap.size, 3, none⟩ (.int .i64 v)).cell? ⟨w4.heap.size, 3, none⟩ = some (.int .i64 v) := cell_of_row _ _ 3 _ _ _ rx
          go_simp
          refine hK.out _ _ ⟨mx6_0, mx6_1, mx6_2, mx6_3⟩ (fun hHeld => ?_)
          clear z10_0 z10_1 z10_2 z10_3 y10_0 y10_1 y10_2 y10_3 mx5_0 mx5_1 mx5_2 mx5_3
          generalize ((((u9.setCell ⟨w.heap.size, 0, none⟩ (.int .i64 k)).setCell ⟨w.heap.size, 1, none⟩ (.int .i64 a)).setCell ⟨w.heap.size, 2, none⟩ (.int .i64 cc)).setCell ⟨w.heap.size, 3, none⟩ (.int .i64 v)) = u10 at *
          clear hK K
          try simp only [Act.put, List.getElem_toArray, List.getElem_cons_zero, List.getElem_cons_succ, List.setIfInBounds_toArray, List.set_cons_zero, List.set_cons_succ]
          refine wpAnyH_ready (rs := [7]) (by kernel_rfl) (by simp) ?_
          refine AllReadyH.cons rfl (fun K hK => ?_) ?_
          · obtain ⟨i, hi, hpk⟩ := pickL (fun x => 0 ≤ x ∧ x < 3) [0, 0, 0, 0, 0, 1, 2] j (by decide) j0 j1
            obtain ⟨i0, i1⟩ := hi
            have hcv := lit_at rq hpk
            clear hpk
            go_simp
            refine hK.out _ _ ⟨mx6_0, mx6_1, mx6_2, mx6_3⟩ (fun hHeld => ?_)
            clear hK K
            try simp only [Act.put, List.getElem_toArray, List.getElem_cons_zero, List.getElem_cons_succ, List.setIfInBounds_toArray, List.set_cons_zero, List.set_cons_succ]
            refine wpAnyH_take (i := 8) (v := ?_) rfl (by kernel_rfl) (by kernel_rfl) (by kernel_rfl) (fun _ _ _ h => h) (Or.inl ⟨by rfl, ?_⟩) (by assumption) ?_
            rotate_left
            · (intro wz hSw; (try dsimp only at hSw); go_simp; try with_reducible rfl)
            simp only [Act.put, List.getElem_toArray, List.getElem_cons_zero, List.getElem_cons_succ, List.setIfInBounds_toArray, List.set_cons_zero, List.set_cons_succ]
            refine wpAnyH_ready (rs := [9]) (by kernel_rfl) (by simp) ?_
            refine AllReadyH.cons rfl (fun K hK => ?_) ?_
            · obtain ⟨y, hy, hpk⟩ := pickL (fun x => -1 ≤ x ∧ x ≤ 65) [size, (-1), 65] i (by intro z hz; simp only [List.mem_cons, List.not_mem_nil, or_false] at hz; omega) i0 i1
              have hcw := lit_at rp hpk
              clear hpk
              go_simp
              refine hK.out _ _ ⟨mx6_0, mx6_1, mx6_2, mx6_3⟩ (fun hHeld => ?_)
              clear hK K
              try simp only [Act.put, List.getElem_toArray, List.getElem_cons_zero, List.getElem_cons_succ, List.setIfInBounds_toArray, List.set_cons_zero, List.set_cons_succ]
              refine wpAnyH_take (i := 11) (v := ?_) rfl (by kernel_rfl) (by kernel_rfl) (by kernel_rfl) (fun _ _ _ h => h) (Or.inl ⟨by rfl, ?_⟩) (by assumption) ?_
              rotate_left
              · (intro wz hSw; (try dsimp only at hSw); go_simp; try with_reducible rfl)
              simp only [Act.put, List.getElem_toArray, List.getElem_cons_zero, List.getElem_cons_succ, List.setIfInBounds_toArray, List.set_cons_zero, List.set_cons_succ]
              refine wpAnyH_done (by kernel_rfl) ?_ _
              refine NoPanic.normal ?_
              have ma1_0 : u10.cell? ⟨w.heap.size, 0, none⟩ = some (.int .i64 k) := cell_of_row _ _ 0 _ _ _ ra
              have ma1_1 : u10.cell? ⟨w.heap.size, 1, none⟩ = some (.int .i64 a) := cell_of_row _ _ 1 _ _ _ ra
              have ma1_2 : u10.cell? ⟨w.heap.size, 2, none⟩ = some (.int .i64 cc) := cell_of_row _ _ 2 _ _ _ ra
              have ma1_3 : u10.cell? ⟨w.heap.size, 3, none⟩ = some (.int .i64 v) := cell_of_row _ _ 3 _ _ _ ra
              go_wp2_with fail
              refine bodyPost_ret (v := .tuple #[.agg #[.int .i64 k, .int .i64 a, .int .i64 cc, .int .i64 v], .int .i64 y]) (by simp [results, Try.results8, go_sem, ma1_0, ma1_1, ma1_2, ma1_3]) rfl ?_
              exact ⟨k, a, cc, v, y, rfl, c4, hy, hB⟩
            exact AllReadyH.nil
          exact AllReadyH.nil
        exact AllReadyH.nil
      refine AllReadyH.cons rfl (fun K hK => ?_) ?_
      · obtain ⟨i, hi, hpk⟩ := pickL (fun x => 0 ≤ x ∧ x < 3) [0, 0, 0, 0, 0, 1, 2] j (by decide) j0 j1
        obtain ⟨i0, i1⟩ := hi
        have hcv := lit_at rq hpk
        clear hpk
        go_simp
        refine hK.out _ _ ⟨mx4_0, mx4_1, mx4_2, mx4_3⟩ (fun hHeld => ?_)
        clear hK K
        try simp only [Act.put, List.getElem_toArray, List.getElem_cons_zero, List.getElem_cons_succ, List.setIfInBounds_toArray, List.set_cons_zero, List.set_cons_succ]
        refine wpAnyH_ready (rs := [2, 10]) (by kernel_rfl) (by simp) ?_
        refine AllReadyH.cons rfl (fun K hK => ?_) ?_
        · have hn9 := below_new u8 (.cells #[.int .i64 size, .int .i64 (-1), .int .i64 65] 3)
          replace ra := rowKeep ra hn9
          replace rx := rowKeep rx hn9
          replace rq := rowKeep rq hn9
          replace hr := hr.below hn9
          replace hB := below_later hB hn9 (by omega)
          have mx5_0 : (u8.alloc (.cells #[.int .i64 size, .int .i64 (-1), .int .i64 65] 3)).cell? ⟨w4.heap.size, 0, none⟩ = some (.int .i64 k) := cell_of_row _ _ 0 _ _ _ rx
          have mx5_1 : (u8.alloc (.cells #[.int .i64 size, .int .i64 (-1), .int .i64 65] 3)).cell? ⟨w4.heap.size, 1, none⟩ = some (.int .i64 a) := cell_of_row _ _ 1 _ _ _ rx
          have mx5_2 : (u8.alloc (.cells #[.int .i64 size, .int .i64 (-1), .int .i64 65] 3)).cell? ⟨w4.heap.size, 2, none⟩ = some (.int .i64 cc) := cell_of_row _ _ 2 _ _ _ rx
          have mx5_3 : (u8.alloc (.cells #[.int .i64 size, .int .i64 (-1), .int .i64 65] 3)).cell? ⟨w4.heap.size, 3, none⟩ = some (.int .i64 v) := cell_of_row _ _ 3 _ _ _ rx
          clear hn9
          have s9 : u8.heap.size < (u8.alloc (.cells #[.int .i64 size, .int .i64 (-1), .int .i64 65] 3)).heap.size := Nat.lt_of_lt_of_eq (Nat.lt_succ_self _) (World.size_alloc _ _).symm
          have rp : (u8.alloc (.cells #[.int .i64 size, .int .i64 (-1), .int .i64 65] 3)).heap[u8.heap.size]? = some (.cells #[.int .i64 size, .int .i64 (-1), .int .i64 65] 3 (0, 0)) := by have q := heap_alloc_new u8 (.cells #[.int .i64 size, .int .i64 (-1), .int .i64 65] 3); (try simp only [World.size_alloc, World.size_setCell] at q); exact q
          go_simp
          refine hK.out _ _ ⟨mx5_0, mx5_1, mx5_2, mx5_3⟩ (fun hHeld => ?_)
          clear mx4_0 mx4_1 mx4_2 mx4_3
          generalize (u8.alloc (.cells #[.int .i64 size, .int .i64 (-1), .int .i64 65] 3)) = u9 at *
          clear hK K
          try simp only [Act.put, List.getElem_toArray, List.getElem_cons_zero, List.getElem_cons_succ, List.setIfInBounds_toArray, List.set_cons_zero, List.set_cons_succ]
          refine wpAnyH_take (i := 8) (v := ?_) rfl (by kernel_rfl) (by kernel_rfl) (by kernel_rfl) (fun _ _ _ h => h) (Or.inl ⟨by rfl, ?_⟩) (by assumption) ?_
          rotate_left
          · (intro wz hSw; (try dsimp only at hSw); go_simp; try with_reducible rfl)
          simp only [Act.put, List.getElem_toArray, List.getElem_cons_zero, List.getElem_cons_succ, List.setIfInBounds_toArray, List.set_cons_zero, List.set_cons_succ]
          refine wpAnyH_ready (rs := [9, 10]) (by kernel_rfl) (by simp) ?_
          refine AllReadyH.cons rfl (fun K hK => ?_) ?_
          · obtain ⟨y, hy, hpk⟩ := pickL (fun x => -1 ≤ x ∧ x ≤ 65) [size, (-1), 65] i (by intro z hz; simp only [List.mem_cons, List.not_mem_nil, or_false] at hz; omega) i0 i1
            have hcw := lit_at rp hpk
            clear hpk
            go_simp
            refine hK.out _ _ ⟨mx5_0, mx5_1, mx5_2, mx5_3⟩ (fun hHeld => ?_)
            clear hK K
            try simp only [Act.put, List.getElem_toArray, List.getElem_cons_zero, List.getElem_cons_succ, List.setIfInBounds_toArray, List.set_cons_zero, List.set_cons_succ]
            refine wpAnyH_ready (rs := [10]) (by kernel_rfl) (by simp) ?_
            refine AllReadyH.cons rfl (fun K hK => ?_) ?_
            · have z10_0 := frzRow ra 0
              have z10_1 := frzRow ra 1
              have z10_2 := frzRow ra 2
              have z10_3 := frzRow ra 3
              have y10_0 : u9.cell? ⟨w.heap.size, 0, none⟩ = some (.int .i64 0) := cell_of_row _ _ 0 _ _ _ ra
              have y10_1 : u9.cell? ⟨w.heap.size, 1, none⟩ = some (.int .i64 0) := cell_of_row _ _ 1 _ _ _ ra
              have y10_2 : u9.cell? ⟨w.heap.size, 2, none⟩ = some (.int .i64 0) := cell_of_row _ _ 2 _ _ _ ra
              have y10_3 : u9.cell? ⟨w.heap.size, 3, none⟩ = some (.int .i64 0) := cell_of_row _ _ 3 _ _ _ ra
              replace rx := rowSet (rowSet (rowSet (rowSet (rx) ⟨w.heap.size, 0, none⟩ (.int .i64 k) (by show _ ≠ w.heap.size; omega)) ⟨w.heap.size, 1, none⟩ (.int .i64 a) (by show _ ≠ w.heap.size; omega)) ⟨w.heap.size, 2, none⟩ (.int .i64 cc) (by show _ ≠ w.heap.size; omega)) ⟨w.heap.size, 3, none⟩ (.int .i64 v) (by show _ ≠ w.heap.size; omega)
              replace rq := rowSet (rowSet (rowSet (rowSet (rq) ⟨w.heap.size, 0, none⟩ (.int .i64 k) (by show _ ≠ w.heap.size; omega)) ⟨w.heap.size, 1, none⟩ (.int .i64 a) (by show _ ≠ w.heap.size; omega)) ⟨w.heap.size, 2, none⟩ (.int .i64 cc) (by show _ ≠ w.heap.size; omega)) ⟨w.heap.size, 3, none⟩ (.int .i64 v) (by show _ ≠ w.heap.size; omega)
              replace rp := rowSet (rowSet (rowSet (rowSet (rp) ⟨w.heap.size, 0, none⟩ (.int .i64 k) (by show _ ≠ w.heap.size; omega)) ⟨w.heap.size, 1, none⟩ (.int .i64 a) (by show _ ≠ w.heap.size; omega)) ⟨w.heap.size, 2, none⟩ (.int .i64 cc) (by show _ ≠ w.heap.size; omega)) ⟨w.heap.size, 3, none⟩ (.int .i64 v) (by show _ ≠ w.heap.size; omega)
              replace ra := set43 (set42 (set41 (set40 (ra) (.int .i64 k)) (.int .i64 a)) (.int .i64 cc)) (.int .i64 v)
              clear hr
              replace hB := ((((hB).setCell (p := ⟨w.heap.size, 0, none⟩) (by show _ ≤ w.heap.size; omega) (.int .i64 k)).setCell (p := ⟨w.heap.size, 1, none⟩) (by show _ ≤ w.heap.size; omega) (.int .i64 a)).setCell (p := ⟨w.heap.size, 2, none⟩) (by show _ ≤ w.heap.size; omega) (.int .i64 cc)).setCell (p := ⟨w.heap.size, 3, none⟩) (by show _ ≤ w.heap.size; omega) (.int .i64 v)
              have s10 : u9.heap.size ≤ ((((u9.setCell ⟨w.heap.size, 0, none⟩ (.int .i64 k)).setCell ⟨w.heap.size, 1, none⟩ (.int .i64 a)).setCell ⟨w.heap.size, 2, none⟩ (.int .i64 cc)).setCell ⟨w.heap.size, 3, none⟩ (.int .i64 v)).heap.size := by simp only [World.size_setCell]; exact Nat.le_refl _
              have mx6_0 : ((((u9.setCell ⟨w.heap.size, 0, none⟩ (.int .i64 k)).setCell ⟨w.heap.size, 1, none⟩ (.int .i64 a)).setCell ⟨w.heap.size, 2, none⟩ (.int .i64 cc)).setCell ⟨w.heap.size, 3, none⟩ (.int .i64 v)).cell? ⟨w4.heap.size, 0, none⟩ = some (.int .i64 k) := cell_of_row _ _ 0 _ _ _ rx
              have mx6_1 : ((((u9.setCell ⟨w.heap.size, 0, none⟩ (.int .i64 k)).setCell ⟨w.heap.size, 1, none⟩ (.int .i64 a)).setCell ⟨w.heap.size, 2, none⟩ (.int .i64 cc)).setCell ⟨w.heap.size, 3, none⟩ (.int .i64 v)).cell? ⟨w4.heap.size, 1, none⟩ = some (.int .i64 a) := cell_of_row _ _ 1 _ _ _ rx
              have mx6_2 : ((((u9.setCell ⟨w.heap.size, 0, none⟩ (.int .i64 k)).setCell ⟨w.heap.size, 1, none⟩ (.int .i64 a)).setCell ⟨w.heap.size, 2, none⟩ (.int .i64 cc)).setCell ⟨w.heap.size, 3, none⟩ (.int .i64 v)).cell? ⟨w4.heap.size, 2, none⟩ = some (.int .i64 cc) := cell_of_row _ _ 2 _ _ _ rx
              have mx6_3 : ((((u9.setCell ⟨w.heap.size, 0, none⟩ (.int .i64 k)).setCell ⟨w.heap.size, 1, none⟩ (.int .i64 a)).setCell ⟨w.heap.size, 2, none⟩ (.int .i64 cc)).setCell ⟨w.heap.size, 3, none⟩ (.int .i64 v)).cell? ⟨w4.heap.size, 3, none⟩ = some (.int .i64 v) := cell_of_row _ _ 3 _ _ _ rx
              go_simp
              refine hK.out _ _ ⟨mx6_0, mx6_1, mx6_2, mx6_3⟩ (fun hHeld => ?_)
              clear z10_0 z10_1 z10_2 z10_3 y10_0 y10_1 y10_2 y10_3 mx5_0 mx5_1 mx5_2 mx5_3
              generalize ((((u9.setCell ⟨w.heap.size, 0, none⟩ (.int .i64 k)).setCell ⟨w.heap.size, 1, none⟩ (.int .i64 a)).setCell ⟨w.heap.size, 2, none⟩ (.int .i64 cc)).setCell ⟨w.heap.size, 3, none⟩ (.int .i64 v)) = u10 at *
              clear hK K
              try simp only [Act.put, List.getElem_toArray, List.getElem_cons_zero, List.getElem_cons_succ, List.setIfInBounds_toArray, List.set_cons_zero, List.set_cons_succ]
              refine wpAnyH_take (i := 11) (v := ?_) rfl (by kernel_rfl) (by kernel_rfl) (by kernel_rfl) (fun _ _ _ h => h) (Or.inl ⟨by rfl, ?_⟩) (by assumption) ?_
              rotate_left
              · (intro wz hSw; (try dsimp only at hSw); go_simp; try with_reducible rfl)
              simp only [Act.put, List.getElem_toArray, List.getElem_cons_zero, List.getElem_cons_succ, List.setIfInBounds_toArray, List.set_cons_zero, List.set_cons_succ]
              refine wpAnyH_done (by kernel_rfl) ?_ _
              refine NoPanic.normal ?_
              have ma1_0 : u10.cell? ⟨w.heap.size, 0, none⟩ = some (.int .i64 k) := cell_of_row _ _ 0 _ _ _ ra
              have ma1_1 : u10.cell? ⟨w.heap.size, 1, none⟩ = some (.int .i64 a) := cell_of_row _ _ 1 _ _ _ ra
              have ma1_2 : u10.cell? ⟨w.heap.size, 2, none⟩ = some (.int .i64 cc) := cell_of_row _ _ 2 _ _ _ ra
              have ma1_3 : u10.cell? ⟨w.heap.size, 3, none⟩ = some (.int .i64 v) := cell_of_row _ _ 3 _ _ _ ra
              go_wp2_with fail
              refine bodyPost_ret (v := .tuple #[.agg #[.int .i64 k, .int .i64 a, .int .i64 cc, .int .i64 v], .int .i64 y]) (by simp [results, Try.results8, go_sem, ma1_0, ma1_1, ma1_2, ma1_3]) rfl ?_
              exact ⟨k, a, cc, v, y, rfl, c4, hy, hB⟩
            exact AllReadyH.nil
          refine AllReadyH.cons rfl (fun K hK => ?_) ?_
          · have z10_0 := frzRow ra 0
            have z10_1 := frzRow ra 1
            have z10_2 := frzRow ra 2
            have z10_3 := frzRow ra 3
            have y10_0 : u9.cell? ⟨w.heap.size, 0, none⟩ = some (.int .i64 0) := cell_of_row _ _ 0 _ _ _ ra
            have y10_1 : u9.cell? ⟨w.heap.size, 1, none⟩ = some (.int .i64 0) := cell_of_row _ _ 1 _ _ _ ra
            have y10_2 : u9.cell? ⟨w.heap.size, 2, none⟩ = some (.int .i64 0) := cell_of_row _ _ 2 _ _ _ ra
            have y10_3 : u9.cell? ⟨w.heap.size, 3, none⟩ = some (.int .i64 0) := cell_of_row _ _ 3 _ _ _ ra
            replace rx := rowSet (rowSet (rowSet (rowSet (rx) ⟨w.heap.size, 0, none⟩ (.int .i64 k) (by show _ ≠ w.heap.size; omega)) ⟨w.heap.size, 1, none⟩ (.int .i64 a) (by show _ ≠ w.heap.size; omega)) ⟨w.heap.size, 2, none⟩ (.int .i64 cc) (by show _ ≠ w.heap.size; omega)) ⟨w.heap.size, 3, none⟩ (.int .i64 v) (by show _ ≠ w.heap.size; omega)
            replace rq := rowSet (rowSet (rowSet (rowSet (rq) ⟨w.heap.size, 0, none⟩ (.int .i64 k) (by show _ ≠ w.heap.size; omega)) ⟨w.heap.size, 1, none⟩ (.int .i64 a) (by show _ ≠ w.heap.size; omega)) ⟨w.heap.size, 2, none⟩ (.int .i64 cc) (by show _ ≠ w.heap.size; omega)) ⟨w.heap.size, 3, none⟩ (.int .i64 v) (by show _ ≠ w.heap.size; omega)
            replace rp := rowSet (rowSet (rowSet (rowSet (rp) ⟨w.heap.size, 0, none⟩ (.int .i64 k) (by show _ ≠ w.heap.size; omega)) ⟨w.heap.size, 1, none⟩ (.int .i64 a) (by show _ ≠ w.heap.size; omega)) ⟨w.heap.size, 2, none⟩ (.int .i64 cc) (by show _ ≠ w.heap.size; omega)) ⟨w.heap.size, 3, none⟩ (.int .i64 v) (by show _ ≠ w.heap.size; omega)
            replace ra := set43 (set42 (set41 (set40 (ra) (.int .i64 k)) (.int .i64 a)) (.int .i64 cc)) (.int .i64 v)
            clear hr
            replace hB := ((((hB).setCell (p := ⟨w.heap.size, 0, none⟩) (by show _ ≤ w.heap.size; omega) (.int .i64 k)).setCell (p := ⟨w.heap.size, 1, none⟩) (by show _ ≤ w.heap.size; omega) (.int .i64 a)).setCell (p := ⟨w.heap.size, 2, none⟩) (by show _ ≤ w.heap.size; omega) (.int .i64 cc)).setCell (p := ⟨w.heap.size, 3, none⟩) (by show _ ≤ w.heap.size; omega) (.int .i64 v)
            have s10 : u9.heap.size ≤ ((((u9.setCell ⟨w.heap.size, 0, none⟩ (.int .i64 k)).setCell ⟨w.heap.size, 1, none⟩ (.int .i64 a)).setCell ⟨w.heap.size, 2, none⟩ (.int .i64 cc)).setCell ⟨w.heap.size, 3, none⟩ (.int .i64 v)).heap.size := by simp only [World.size_setCell]; exact Nat.le_refl _
            have mx6_0 : ((((u9.setCell ⟨w.heap.size, 0, none⟩ (.int .i64 k)).setCell ⟨w.heap.size, 1, none⟩ (.int .i64 a)).setCell ⟨w.heap.size, 2, none⟩ (.int .i64 cc)).setCell ⟨w.heap.size, 3, none⟩ (.int .i64 v)).cell? ⟨w4.heap.size, 0, none⟩ = some (.int .i64 k) := cell_of_row _ _ 0 _ _ _ rx
            have mx6_1 : ((((u9.setCell ⟨w.heap.size, 0, none⟩ (.int .i64 k)).setCell ⟨w.heap.size, 1, none⟩ (.int .i64 a)).setCell ⟨w.heap.size, 2, none⟩ (.int .i64 cc)).setCell ⟨w.heap.size, 3, none⟩ (.int .i64 v)).cell? ⟨w4.heap.size, 1, none⟩ = some (.int .i64 a) := cell_of_row _ _ 1 _ _ _ rx
            have mx6_2 : ((((u9.setCell ⟨w.heap.size, 0, none⟩ (.int .i64 k)).setCell ⟨w.heap.size, 1, none⟩ (.int .i64 a)).setCell ⟨w.heap.size, 2, none⟩ (.int .i64 cc)).setCell ⟨w.heap.size, 3, none⟩ (.int .i64 v)).cell? ⟨w4.heap.size, 2, none⟩ = some (.int .i64 cc) := cell_of_row _ _ 2 _ _ _ rx
            have mx6_3 : ((((u9.setCell ⟨w.heap.size, 0, none⟩ (.int .i64 k)).setCell ⟨w.heap.size, 1, none⟩ (.int .i64 a)).setCell ⟨w.heap.size, 2, none⟩ (.int .i64 cc)).setCell ⟨w.heap.size, 3, none⟩ (.int .i64 v)).cell? ⟨w4.heap.size, 3, none⟩ = some (.int .i64 v) := cell_of_row _ _ 3 _ _ _ rx
            go_simp
            refine hK.out _ _ ⟨mx6_0, mx6_1, mx6_2, mx6_3⟩ (fun hHeld => ?_)
            clear z10_0 z10_1 z10_2 z10_3 y10_0 y10_1 y10_2 y10_3 mx5_0 mx5_1 mx5_2 mx5_3
            generalize ((((u9.setCell ⟨w.heap.size, 0, none⟩ (.int .i64 k)).setCell ⟨w.heap.size, 1, none⟩ (.int .i64 a)).setCell ⟨w.heap.size, 2, none⟩ (.int .i64 cc)).setCell ⟨w.heap.size, 3, none⟩ (.int .i64 v)) = u10 at *
            clear hK K
            try simp only [Act.put, List.getElem_toArray, List.getElem_cons_zero, List.getElem_cons_succ, List.setIfInBounds_toArray, List.set_cons_zero, List.set_cons_succ]
            refine wpAnyH_ready (rs := [9]) (by kernel_rfl) (by simp) ?_
            refine AllReadyH.cons rfl (fun K hK => ?_) ?_
            · obtain ⟨y, hy, hpk⟩ := pickL (fun x => -1 ≤ x ∧ x ≤ 65) [size, (-1), 65] i (by intro z hz; simp only [List.mem_cons, List.not_mem_nil, or_false] at hz; omega) i0 i1
              have hcw := lit_at rp hpk
              clear hpk
              go_simp
              refine hK.out _ _ ⟨mx6_0, mx6_1, mx6_2, mx6_3⟩ (fun hHeld => ?_)
              clear hK K
              try simp only [Act.put, List.getElem_toArray, List.getElem_cons_zero, List.getElem_cons_succ, List.setIfInBounds_toArray, List.set_cons_zero, List.set_cons_succ]
              refine wpAnyH_take (i := 11) (v := ?_) rfl (by kernel_rfl) (by kernel_rfl) (by kernel_rfl) (fun _ _ _ h => h) (Or.inl ⟨by rfl, ?_⟩) (by assumption) ?_
              rotate_left
              · (intro wz hSw; (try dsimp only at hSw); go_simp; try with_reducible rfl)
              simp only [Act.put, List.getElem_toArray, List.getElem_cons_zero, List.getElem_cons_succ, List.setIfInBounds_toArray, List.set_cons_zero, List.set_cons_succ]
              refine wpAnyH_done (by kernel_rfl) ?_ _
              refine NoPanic.normal ?_
              have ma1_0 : u10.cell? ⟨w.heap.size, 0, none⟩ = some (.int .i64 k) := cell_of_row _ _ 0 _ _ _ ra
              have ma1_1 : u10.cell? ⟨w.heap.size, 1, none⟩ = some (.int .i64 a) := cell_of_row _ _ 1 _ _ _ ra
              have ma1_2 : u10.cell? ⟨w.heap.size, 2, none⟩ = some (.int .i64 cc) := cell_of_row _ _ 2 _ _ _ ra
              have ma1_3 : u10.cell? ⟨w.heap.size, 3, none⟩ = some (.int .i64 v) := cell_of_row _ _ 3 _ _ _ ra
              go_wp2_with fail
              refine bodyPost_ret (v := .tuple #[.agg #[.int .i64 k, .int .i64 a, .int .i64 cc, .int .i64 v], .int .i64 y]) (by simp [results, Try.results8, go_sem, ma1_0, ma1_1, ma1_2, ma1_3]) rfl ?_
              exact ⟨k, a, cc, v, y, rfl, c4, hy, hB⟩
            exact AllReadyH.nil
          exact AllReadyH.nil
        refine AllReadyH.cons rfl (fun K hK => ?_) ?_
        · have z9_0 := frzRow ra 0
          have z9_1 := frzRow ra 1
          have z9_2 := frzRow ra 2
          have z9_3 := frzRow ra 3
          have y9_0 : u8.cell? ⟨w.heap.size, 0, none⟩ = some (.int .i64 0) := cell_of_row _ _ 0 _ _ _ ra
          have y9_1 : u8.cell? ⟨w.heap.size, 1, none⟩ = some (.int .i64 0) := cell_of_row _ _ 1 _ _ _ ra
          have y9_2 : u8.cell? ⟨w.heap.size, 2, none⟩ = some (.int .i64 0) := cell_of_row _ _ 2 _ _ _ ra
          have y9_3 : u8.cell? ⟨w.heap.size, 3, none⟩ = some (.int .i64 0) := cell_of_row _ _ 3 _ _ _ ra
          replace rx := rowSet (rowSet (rowSet (rowSet (rx) ⟨w.heap.size, 0, none⟩ (.int .i64 k) (by show _ ≠ w.heap.size; omega)) ⟨w.heap.size, 1, none⟩ (.int .i64 a) (by show _ ≠ w.heap.size; omega)) ⟨w.heap.size, 2, none⟩ (.int .i64 cc) (by show _ ≠ w.heap.size; omega)) ⟨w.heap.size, 3, none⟩ (.int .i64 v) (by show _ ≠ w.heap.size; omega)
          replace rq := rowSet (rowSet (rowSet (rowSet (rq) ⟨w.heap.size, 0, none⟩ (.int .i64 k) (by show _ ≠ w.heap.size; omega)) ⟨w.heap.size, 1, none⟩ (.int .i64 a) (by show _ ≠ w.heap.size; omega)) ⟨w.heap.size, 2, none⟩ (.int .i64 cc) (by show _ ≠ w.heap.size; omega)) ⟨w.heap.size, 3, none⟩ (.int .i64 v) (by show _ ≠ w.heap.size; omega)
          replace ra := set43 (set42 (set41 (set40 (ra) (.int .i64 k)) (.int .i64 a)) (.int .i64 cc)) (.int .i64 v)
          clear hr
          replace hB := ((((hB).setCell (p := ⟨w.heap.size, 0, none⟩) (by show _ ≤ w.heap.size; omega) (.int .i64 k)).setCell (p := ⟨w.heap.size, 1, none⟩) (by show _ ≤ w.heap.size; omega) (.int .i64 a)).setCell (p := ⟨w.heap.size, 2, none⟩) (by show _ ≤ w.heap.size; omega) (.int .i64 cc)).setCell (p := ⟨w.heap.size, 3, none⟩) (by show _ ≤ w.heap.size; omega) (.int .i64 v)
          have s9 : u8.heap.size ≤ ((((u8.setCell ⟨w.heap.size, 0, none⟩ (.int .i64 k)).setCell ⟨w.heap.size, 1, none⟩ (.int .i64 a)).setCell ⟨w.heap.size, 2, none⟩ (.int .i64 cc)).setCell ⟨w.heap.size, 3, none⟩ (.int .i64 v)).heap.size := by simp only [World.size_setCell]; exact Nat.le_refl _
          have mx5_0 : ((((u8.setCell ⟨w.heap.size, 0, none⟩ (.int .i64 k)).setCell ⟨w.heap.size, 1, none⟩ (.int .i64 a)).setCell ⟨w.heap.size, 2, none⟩ (.int .i64 cc)).setCell ⟨w.heap.size, 3, none⟩ (.int .i64 v)).cell? ⟨w4.heap.size, 0, none⟩ = some (.int .i64 k) := cell_of_row _ _ 0 _ _ _ rx
          have mx5_1 : ((((u8.setCell ⟨w.heap.size, 0, none⟩ (.int .i64 k)).setCell ⟨w.heap.size, 1, none⟩ (.int .i64 a)).setCell ⟨w.heap.size, 2, none⟩ (.int .i64 cc)).setCell ⟨w.heap.size, 3, none⟩ (.int .i64 v)).cell? ⟨w4.heap.size, 1, none⟩ = some (.int .i64 a) := cell_of_row _ _ 1 _ _ _ rx
          have mx5_2 : ((((u8.setCell ⟨w.heap.size, 0, none⟩ (.int .i64 k)).setCell ⟨w.heap.size, 1, none⟩ (.int .i64 a)).setCell ⟨w.heap.size, 2, none⟩ (.int .i64 cc)).setCell ⟨w.heap.size, 3, none⟩ (.int .i64 v)).cell? ⟨w4.heap.size, 2, none⟩ = some (.int .i64 cc) := cell_of_row _ _ 2 _ _ _ rx
          have mx5_3 : ((((u8.setCell ⟨w.heap.size, 0, none⟩ (.int .i64 k)).setCell ⟨w.heap.size, 1, none⟩ (.int .i64 a)).setCell ⟨w.heap.size, 2, none⟩ (.int .i64 cc)).setCell ⟨w.heap.size, 3, none⟩ (.int .i64 v)).cell? ⟨w4.heap.size, 3, none⟩ = some (.int .i64 v) := cell_of_row _ _ 3 _ _ _ rx
          go_simp
          refine hK.out _ _ ⟨mx5_0, mx5_1, mx5_2, mx5_3⟩ (fun hHeld => ?_)
          clear z9_0 z9_1 z9_2 z9_3 y9_0 y9_1 y9_2 y9_3 mx4_0 mx4_1 mx4_2 mx4_3
          generalize ((((u8.setCell ⟨w.heap.size, 0, none⟩ (.int .i64 k)).setCell ⟨w.heap.size, 1, none⟩ (.int .i64 a)).setCell ⟨w.heap.size, 2, none⟩ (.int .i64 cc)).setCell ⟨w.heap.size, 3, none⟩ (.int .i64 v)) = u9 at *
          clear hK K
          try simp only [Act.put, List.getElem_toArray, List.getElem_cons_zero, List.getElem_cons_succ, List.setIfInBounds_toArray, List.set_cons_zero, List.set_cons_succ]
          refine wpAnyH_ready (rs := [2]) (by kernel_rfl) (by simp) ?_
          refine AllReadyH.cons rfl (fun K hK => ?_) ?_
          · have hn10 := below_new u9 (.cells #[.int .i64 size, .int .i64 (-1), .int .i64 65] 3)
            replace ra := rowKeep ra hn10
            replace rx := rowKeep rx hn10
            replace rq := rowKeep rq hn10
            replace hB := below_later hB hn10 (by omega)
            have mx6_0 : (u9.alloc (.cells #[.int .i64 size, .int .i64 (-1), .int .i64 65] 3)).cell? ⟨w4.heap.size, 0, none⟩ = some (.int .i64 k) := cell_of_row _ _ 0 _ _ _ rx
            have mx6_1 : (u9.alloc (.cells #[.int .i64 size, .int .i64 (-1), .int .i64 65] 3)).cell? ⟨w4.heap.size, 1, none⟩ = some (.int .i64 a) := cell_of_row _ _ 1 _ _ _ rx
            have mx6_2 : (u9.alloc (.cells #[.int .i64 size, .int .i64 (-1), .int .i64 65] 3)).cell? ⟨w4.heap.size, 2, none⟩ = some (.int .i64 cc) := cell_of_row _ _ 2 _ _ _ rx
            have mx6_3 : (u9.alloc (.cells #[.int .i64 size, .int .i64 (-1), .int .i64 65] 3)).cell? ⟨w4.heap.size, 3, none⟩ = some (.int .i64 v) := cell_of_row _ _ 3 _ _ _ rx
            clear hn10
            have s10 : u9.heap.size < (u9.alloc (.cells #[.int .i64 size, .int .i64 (-1), .int .i64 65] 3)).heap.size := Nat.lt_of_lt_of_eq (Nat.lt_succ_self _) (World.size_alloc _ _).symm
            have rp : (u9.alloc (.cells #[.int .i64 size, .int .i64 (-1), .int .i64 65] 3)).heap[u9.heap.size]? = some (.cells #[.int .i64 size, .int .i64 (-1), .int .i64 65] 3 (0, 0)) := by have q := heap_alloc_new u9 (.cells #[.int .i64 size, .int .i64 (-1), .int .i64 65] 3); (try simp only [World.size_alloc, World.size_setCell] at q); exact q
            go_simp
            refine hK.out _ _ ⟨mx6_0, mx6_1, mx6_2, mx6_3⟩ (fun hHeld => ?_)
            clear mx5_0 mx5_1 mx5_2 mx5_3
            generalize (u9.alloc (.cells #[.int .i64 size, .int .i64 (-1), .int .i64 65] 3)) = u10 at *
            clear hK K
            try simp only [Act.put, List.getElem_toArray, List.getElem_cons_zero, List.getElem_cons_succ, List.setIfInBounds_toArray, List.set_cons_zero, List.set_cons_succ]
            refine wpAnyH_take (i := 8) (v := ?_) rfl (by kernel_rfl) (by kernel_rfl) (by kernel_rfl) (fun _ _ _ h => h) (Or.inl ⟨by rfl, ?_⟩) (by assumption) ?_
            rotate_left
            · (intro wz hSw; (try dsimp only at hSw); go_simp; try with_reducible rfl)
            simp only [Act.put, List.getElem_toArray, List.getElem_cons_zero, List.getElem_cons_succ, List.setIfInBounds_toArray, List.set_cons_zero, List.set_cons_succ]
            refine wpAnyH_ready (rs := [9]) (by kernel_rfl) (by simp) ?_
            refine AllReadyH.cons rfl (fun K hK => ?_) ?_
            · obtain ⟨y, hy, hpk⟩ := pickL (fun x => -1 ≤ x ∧ x ≤ 65) [size, (-1), 65] i (by intro z hz; simp only [List.mem_cons, List.not_mem_nil, or_false] at hz; omega) i0 i1
              have hcw := lit_at rp hpk
              clear hpk
              go_simp
              refine hK.out _ _ ⟨mx6_0, mx6_1, mx6_2, mx6_3⟩ (fun hHeld => ?_)
              clear hK K
              try simp only [Act.put, List.getElem_toArray, List.getElem_cons_zero, List.getElem_cons_succ, List.setIfInBounds_toArray, List.set_cons_zero, List.set_cons_succ]
              refine wpAnyH_take (i := 11) (v := ?_) rfl (by kernel_rfl) (by kernel_rfl) (by kernel_rfl) (fun _ _ _ h => h) (Or.inl ⟨by rfl, ?_⟩) (by assumption) ?_
              rotate_left
              · (intro wz hSw; (try dsimp only at hSw); go_simp; try with_reducible rfl)
              simp only [Act.put, List.getElem_toArray, List.getElem_cons_zero, List.getElem_cons_succ, List.setIfInBounds_toArray, List.set_cons_zero, List.set_cons_succ]
              refine wpAnyH_done (by kernel_rfl) ?_ _
              refine NoPanic.normal ?_
              have ma1_0 : u10.cell? ⟨w.heap.size, 0, none⟩ = some (.int .i64 k) := cell_of_row _ _ 0 _ _ _ ra
              have ma1_1 : u10.cell? ⟨w.heap.size, 1, none⟩ = some (.int .i64 a) := cell_of_row _ _ 1 _ _ _ ra
              have ma1_2 : u10.cell? ⟨w.heap.size, 2, none⟩ = some (.int .i64 cc) := cell_of_row _ _ 2 _ _ _ ra
              have ma1_3 : u10.cell? ⟨w.heap.size, 3, none⟩ = some (.int .i64 v) := cell_of_row _ _ 3 _ _ _ ra
              go_wp2_with fail
              refine bodyPost_ret (v := .tuple #[.agg #[.int .i64 k, .int .i64 a, .int .i64 cc, .int .i64 v], .int .i64 y]) (by simp [results, Try.results8, go_sem, ma1_0, ma1_1, ma1_2, ma1_3]) rfl ?_
              exact ⟨k, a, cc, v, y, rfl, c4, hy, hB⟩
            exact AllReadyH.nil
          exact AllReadyH.nil
        exact AllReadyH.nil
      refine AllReadyH.cons rfl (fun K hK => ?_) ?_
      · have z9_0 := frzRow ra 0
        have z9_1 := frzRow ra 1
        have z9_2 := frzRow ra 2
        have z9_3 := frzRow ra 3
        have y9_0 : u8.cell? ⟨w.heap.size, 0, none⟩ = some (.int .i64 0) := cell_of_row _ _ 0 _ _ _ ra
        have y9_1 : u8.cell? ⟨w.heap.size, 1, none⟩ = some (.int .i64 0) := cell_of_row _ _ 1 _ _ _ ra
        have y9_2 : u8.cell? ⟨w.heap.size, 2, none⟩ = some (.int .i64 0) := cell_of_row _ _ 2 _ _ _ ra
        have y9_3 : u8.cell? ⟨w.heap.size, 3, none⟩ = some (.int .i64 0) := cell_of_row _ _ 3 _ _ _ ra
        replace rx := rowSet (rowSet (rowSet (rowSet (rx) ⟨w.heap.size, 0, none⟩ (.int .i64 k) (by show _ ≠ w.heap.size; omega)) ⟨w.heap.size, 1, none⟩ (.int .i64 a) (by show _ ≠ w.heap.size; omega)) ⟨w.heap.size, 2, none⟩ (.int .i64 cc) (by show _ ≠ w.heap.size; omega)) ⟨w.heap.size, 3, none⟩ (.int .i64 v) (by show _ ≠ w.heap.size; omega)
        replace rq := rowSet (rowSet (rowSet (rowSet (rq) ⟨w.heap.size, 0, none⟩ (.int .i64 k) (by show _ ≠ w.heap.size; omega)) ⟨w.heap.size, 1, none⟩ (.int .i64 a) (by show _ ≠ w.heap.size; omega)) ⟨w.heap.size, 2, none⟩ (.int .i64 cc) (by show _ ≠ w.heap.size; omega)) ⟨w.heap.size, 3, none⟩ (.int .i64 v) (by show _ ≠ w.heap.size; omega)
        replace ra := set43 (set42 (set41 (set40 (ra) (.int .i64 k)) (.int .i64 a)) (.int .i64 cc)) (.int .i64 v)
        clear hr
        replace hB := ((((hB).setCell (p := ⟨w.heap.size, 0, none⟩) (by show _ ≤ w.heap.size; omega) (.int .i64 k)).setCell (p := ⟨w.heap.size, 1, none⟩) (by show _ ≤ w.heap.size; omega) (.int .i64 a)).setCell (p := ⟨w.heap.size, 2, none⟩) (by show _ ≤ w.heap.size; omega) (.int .i64 cc)).setCell (p := ⟨w.heap.size, 3, none⟩) (by show _ ≤ w.heap.size; omega) (.int .i64 v)
        have s9 : u8.heap.size ≤ ((((u8.setCell ⟨w.heap.size, 0, none⟩ (.int .i64 k)).setCell ⟨w.heap.size, 1, none⟩ (.int .i64 a)).setCell ⟨w.heap.size, 2, none⟩ (.int .i64 cc)).setCell ⟨w.heap.size, 3, none⟩ (.int .i64 v)).heap.size := by simp only [World.size_setCell]; exact Nat.le_refl _
        have mx5_0 : ((((u8.setCell ⟨w.heap.size, 0, none⟩ (.int .i64 k)).setCell ⟨w.heap.size, 1, none⟩ (.int .i64 a)).setCell ⟨w.heap.size, 2, none⟩ (.int .i64 cc)).setCell ⟨w.heap.size, 3, none⟩ (.int .i64 v)).cell? ⟨w4.heap.size, 0, none⟩ = some (.int .i64 k) := cell_of_row _ _ 0 _ _ _ rx
        have mx5_1 : ((((u8.setCell ⟨w.heap.size, 0, none⟩ (.int .i64 k)).setCell ⟨w.heap.size, 1, none⟩ (.int .i64 a)).setCell ⟨w.heap.size, 2, none⟩ (.int .i64 cc)).setCell ⟨w.heap.size, 3, none⟩ (.int .i64 v)).cell? ⟨w4.heap.size, 1, none⟩ = some (.int .i64 a) := cell_of_row _ _ 1 _ _ _ rx
        have mx5_2 : ((((u8.setCell ⟨w.heap.size, 0, none⟩ (.int .i64 k)).setCell ⟨w.heap.size, 1, none⟩ (.int .i64 a)).setCell ⟨w.heap.size, 2, none⟩ (.int .i64 cc)).setCell ⟨w.heap.size, 3, none⟩ (.int .i64 v)).cell? ⟨w4.heap.size, 2, none⟩ = some (.int .i64 cc) := cell_of_row _ _ 2 _ _ _ rx
        have mx5_3 : ((((u8.setCell ⟨w.heap.size, 0, none⟩ (.int .i64 k)).setCell ⟨w.heap.size, 1, none⟩ (.int .i64 a)).setCell ⟨w.heap.size, 2, none⟩ (.int .i64 cc)).setCell ⟨w.heap.size, 3, none⟩ (.int .i64 v)).cell? ⟨w4.heap.size, 3, none⟩ = some (.int .i64 v) := cell_of_row _ _ 3 _ _ _ rx
        go_simp
        refine hK.out _ _ ⟨mx5_0, mx5_1, mx5_2, mx5_3⟩ (fun hHeld => ?_)
        clear z9_0 z9_1 z9_2 z9_3 y9_0 y9_1 y9_2 y9_3 mx4_0 mx4_1 mx4_2 mx4_3
        generalize ((((u8.setCell ⟨w.heap.size, 0, none⟩ (.int .i64 k)).setCell ⟨w.heap.size, 1, none⟩ (.int .i64 a)).setCell ⟨w.heap.size, 2, none⟩ (.int .i64 cc)).setCell ⟨w.heap.size, 3, none⟩ (.int .i64 v)) = u9 at *
        clear hK K
        try simp only [Act.put, List.getElem_toArray, List.getElem_cons_zero, List.getElem_cons_succ, List.setIfInBounds_toArray, List.set_cons_zero, List.set_cons_succ]
        refine wpAnyH_ready (rs := [2, 7]) (by kernel_rfl) (by simp) ?_
        refine AllReadyH.cons rfl (fun K hK => ?_) ?_
        · have hn10 := below_new u9 (.cells #[.int .i64 size, .int .i64 (-1), .int .i64 65] 3)
          replace ra := rowKeep ra hn10
          replace rx := rowKeep rx hn10
          replace rq := rowKeep rq hn10
          replace hB := below_later hB hn10 (by omega)
          have mx6_0 : (u9.alloc (.cells #[.int .i64 size, .int .i64 (-1), .int .i64 65] 3)).cell? ⟨w4.heap.size, 0, none⟩ = some (.int .i64 k) := cell_of_row _ _ 0 _ _ _ rx
          have mx6_1 : (u9.alloc (.cells #[.int .i64 size, .int .i64 (-1), .int .i64 65] 3)).cell? ⟨w4.heap.size, 1, none⟩ = some (.int .i64 a) := cell_of_row _ _ 1 _ _ _ rx
          have mx6_2 : (u9.alloc (.cells #[.int .i64 size, .int .i64 (-1), .int .i64 65] 3)).cell? ⟨w4.heap.size, 2, none⟩ = some (.int .i64 cc) := cell_of_row _ _ 2 _ _ _ rx
          have mx6_3 : (u9.alloc (.cells #[.int .i64 size, .int .i64 (-1), .int .i64 65] 3)).cell? ⟨w4.heap.size, 3, none⟩ = some (.int .i64 v) := cell_of_row _ _ 3 _ _ _ rx
          clear hn10
          have s10 : u9.heap.size < (u9.alloc (.cells #[.int .i64 size, .int .i64 (-1), .int .i64 65] 3)).heap.size := Nat.lt_of_lt_of_eq (Nat.lt_succ_self _) (World.size_alloc _ _).symm
          have rp : (u9.alloc (.cells #[.int .i64 size, .int .i64 (-1), .int .i64 65] 3)).heap[u9.heap.size]? = some (.cells #[.int .i64 size, .int .i64 (-1), .int .i64 65] 3 (0, 0)) := by have q := heap_alloc_new u9 (.cells #[.int .i64 size, .int .i64 (-1), .int .i64 65] 3); (try simp only [World.size_alloc, World.size_setCell] at q); exact q
          go_simp
          refine hK.out _ _ ⟨mx6_0, mx6_1, mx6_2, mx6_3⟩ (fun hHeld => ?_)
          clear mx5_0 mx5_1 mx5_2 mx5_3
          generalize (u9.alloc (.cells #[.int .i64 size, .int .i64 (-1), .int .i64 65] 3)) = u10 at *
          clear hK K
          try simp only [Act.put, List.getElem_toArray, List.getElem_cons_zero, List.getElem_cons_succ, List.setIfInBounds_toArray, List.set_cons_zero, List.set_cons_succ]
          refine wpAnyH_ready (rs := [7]) (by kernel_rfl) (by simp) ?_
          refine AllReadyH.cons rfl (fun K hK => ?_) ?_
          · obtain ⟨i, hi, hpk⟩ := pickL (fun x => 0 ≤ x ∧ x < 3) [0, 0, 0, 0, 0, 1, 2] j (by decide) j0 j1
            obtain ⟨i0, i1⟩ := hi
            have hcv := lit_at rq hpk
            clear hpk
            go_simp
            refine hK.out _ _ ⟨mx6_0, mx6_1, mx6_2, mx6_3⟩ (fun hHeld => ?_)
            clear hK K
            try simp only [Act.put, List.getElem_toArray, List.getElem_cons_zero, List.getElem_cons_succ, List.setIfInBounds_toArray, List.set_cons_zero, List.set_cons_succ]
            refine wpAnyH_take (i := 8) (v := ?_) rfl (by kernel_rfl) (by kernel_rfl) (by kernel_rfl) (fun _ _ _ h => h) (Or.inl ⟨by rfl, ?_⟩) (by assumption) ?_
            rotate_left
            · (intro wz hSw; (try dsimp only at hSw); go_simp; try with_reducible rfl)
            simp only [Act.put, List.getElem_toArray, List.getElem_cons_zero, List.getElem_cons_succ, List.setIfInBounds_toArray, List.set_cons_zero, List.set_cons_succ]
            refine wpAnyH_ready (rs := [9]) (by kernel_rfl) (by simp) ?_
            refine AllReadyH.cons rfl (fun K hK => ?_) ?_
            · obtain ⟨y, hy, hpk⟩ := pickL (fun x => -1 ≤ x ∧ x ≤ 65) [size, (-1), 65] i (by intro z hz; simp only [List.mem_cons, List.not_mem_nil, or_false] at hz; omega) i0 i1
              have hcw := lit_at rp hpk
              clear hpk
              go_simp
              refine hK.out _ _ ⟨mx6_0, mx6_1, mx6_2, mx6_3⟩ (fun hHeld => ?_)
              clear hK K
              try simp only [Act.put, List.getElem_toArray, List.getElem_cons_zero, List.getElem_cons_succ, List.setIfInBounds_toArray, List.set_cons_zero, List.set_cons_succ]
              refine wpAnyH_take (i := 11) (v := ?_) rfl (by kernel_rfl) (by kernel_rfl) (by kernel_rfl) (fun _ _ _ h => h) (Or.inl ⟨by rfl, ?_⟩) (by assumption) ?_
              rotate_left
              · (intro wz hSw; (try dsimp only at hSw); go_simp; try with_reducible rfl)
              simp only [Act.put, List.getElem_toArray, List.getElem_cons_zero, List.getElem_cons_succ, List.setIfInBounds_toArray, List.set_cons_zero, List.set_cons_succ]
              refine wpAnyH_done (by kernel_rfl) ?_ _
              refine NoPanic.normal ?_
              have ma1_0 : u10.cell? ⟨w.heap.size, 0, none⟩ = some (.int .i64 k) := cell_of_row _ _ 0 _ _ _ ra
              have ma1_1 : u10.cell? ⟨w.heap.size, 1, none⟩ = some (.int .i64 a) := cell_of_row _ _ 1 _ _ _ ra
              have ma1_2 : u10.cell? ⟨w.heap.size, 2, none⟩ = some (.int .i64 cc) := cell_of_row _ _ 2 _ _ _ ra
              have ma1_3 : u10.cell? ⟨w.heap.size, 3, none⟩ = some (.int .i64 v) := cell_of_row _ _ 3 _ _ _ ra
              go_wp2_with fail
              refine bodyPost_ret (v := .tuple #[.agg #[.int .i64 k, .int .i64 a, .int .i64 cc, .int .i64 v], .int .i64 y]) (by simp [results, Try.results8, go_sem, ma1_0, ma1_1, ma1_2, ma1_3]) rfl ?_
              exact ⟨k, a, cc, v, y, rfl, c4, hy, hB⟩
            exact AllReadyH.nil
          exact AllReadyH.nil
        refine AllReadyH.cons rfl (fun K hK => ?_) ?_
        · obtain ⟨i, hi, hpk⟩ := pickL (fun x => 0 ≤ x ∧ x < 3) [0, 0, 0, 0, 0, 1, 2] j (by decide) j0 j1
          obtain ⟨i0, i1⟩ := hi
          have hcv := lit_at rq hpk
          clear hpk
          go_simp
          refine hK.out _ _ ⟨mx5_0, mx5_1, mx5_2, mx5_3⟩ (fun hHeld => ?_)
          clear hK K
          try simp only [Act.put, List.getElem_toArray, List.getElem_cons_zero, List.getElem_cons_succ, List.setIfInBounds_toArray, List.set_cons_zero, List.set_cons_succ]
          refine wpAnyH_ready (rs := [2]) (by kernel_rfl) (by simp) ?_
          refine AllReadyH.cons rfl (fun K hK => ?_) ?_
          · have hn10 := below_new u9 (.cells #[.int .i64 size, .int .i64 (-1), .int .i64 65] 3)
            replace ra := rowKeep ra hn10
            replace rx := rowKeep rx hn10
            replace rq := rowKeep rq hn10
            replace hB := below_later hB hn10 (by omega)
            have mx6_0 : (u9.alloc (.cells #[.int .i64 size, .int .i64 (-1), .int .i64 65] 3)).cell? ⟨w4.heap.size, 0, none⟩ = some (.int .i64 k) := cell_of_row _ _ 0 _ _ _ rx
            have mx6_1 : (u9.alloc (.cells #[.int .i64 size, .int .i64 (-1), .int .i64 65] 3)).cell? ⟨w4.heap.size, 1, none⟩ = some (.int .i64 a) := cell_of_row _ _ 1 _ _ _ rx
            have mx6_2 : (u9.alloc (.cells #[.int .i64 size, .int .i64 (-1), .int .i64 65] 3)).cell? ⟨w4.heap.size, 2, none⟩ = some (.int .i64 cc) := cell_of_row _ _ 2 _ _ _ rx
            have mx6_3 : (u9.alloc (.cells #[.int .i64 size, .int .i64 (-1), .int .i64 65] 3)).cell? ⟨w4.heap.size, 3, none⟩ = some (.int .i64 v) := cell_of_row _ _ 3 _ _ _ rx
            clear hn10
            have s10 : u9.heap.size < (u9.alloc (.cells #[.int .i64 size, .int .i64 (-1), .int .i64 65] 3)).heap.size := Nat.lt_of_lt_of_eq (Nat.lt_succ_self _) (World.size_alloc _ _).symm
            have rp : (u9.alloc (.cells #[.int .i64 size, .int .i64 (-1), .int .i64 65] 3)).heap[u9.heap.size]? = some (.cells #[.int .i64 size, .int .i64 (-1), .int .i64 65] 3 (0, 0)) := by have q := heap_alloc_new u9 (.cells #[.int .i64 size, .int .i64 (-1), .int .i64 65] 3); (try simp only [World.size_alloc, World.size_setCell] at q); exact q
            go_simp
            refine hK.out _ _ ⟨mx6_0, mx6_1, mx6_2, mx6_3⟩ (fun hHeld => ?_)
            clear mx5_0 mx5_1 mx5_2 mx5_3
            generalize (u9.alloc (.cells #[.int .i64 size, .int .i64 (-1), .int .i64 65] 3)) = u10 at *
            clear hK K
            try simp only [Act.put, List.getElem_toArray, List.getElem_cons_zero, List.getElem_cons_succ, List.setIfInBounds_toArray, List.set_cons_zero, List.set_cons_succ]
            refine wpAnyH_take (i := 8) (v := ?_) rfl (by kernel_rfl) (by kernel_rfl) (by kernel_rfl) (fun _ _ _ h => h) (Or.inl ⟨by rfl, ?_⟩) (by assumption) ?_
            rotate_left
            · (intro wz hSw; (try dsimp only at hSw); go_simp; try with_reducible rfl)
            simp only [Act.put, List.getElem_toArray, List.getElem_cons_zero, List.getElem_cons_succ, List.setIfInBounds_toArray, List.set_cons_zero, List.set_cons_succ]
            refine wpAnyH_ready (rs := [9]) (by kernel_rfl) (by simp) ?_
            refine AllReadyH.cons rfl (fun K hK => ?_) ?_
            · obtain ⟨y, hy, hpk⟩ := pickL (fun x => -1 ≤ x ∧ x ≤ 65) [size, (-1), 65] i (by intro z hz; simp only [List.mem_cons, List.not_mem_nil, or_false] at hz; omega) i0 i1
              have hcw := lit_at rp hpk
              clear hpk
              go_simp
              refine hK.out _ _ ⟨mx6_0, mx6_1, mx6_2, mx6_3⟩ (fun hHeld => ?_)
              clear hK K
              try simp only [Act.put, List.getElem_toArray, List.getElem_cons_zero, List.getElem_cons_succ, List.setIfInBounds_toArray, List.set_cons_zero, List.set_cons_succ]
              refine wpAnyH_take (i := 11) (v := ?_) rfl (by kernel_rfl) (by kernel_rfl) (by kernel_rfl) (fun _ _ _ h => h) (Or.inl ⟨by rfl, ?_⟩) (by assumption) ?_
              rotate_left
              · (intro wz hSw; (try dsimp only at hSw); go_simp; try with_reducible rfl)
              simp only [Act.put, List.getElem_toArray, List.getElem_cons_zero, List.getElem_cons_succ, List.setIfInBounds_toArray, List.set_cons_zero, List.set_cons_succ]
              refine wpAnyH_done (by kernel_rfl) ?_ _
              refine NoPanic.normal ?_
              have ma1_0 : u10.cell? ⟨w.heap.size, 0, none⟩ = some (.int .i64 k) := cell_of_row _ _ 0 _ _ _ ra
              have ma1_1 : u10.cell? ⟨w.heap.size, 1, none⟩ = some (.int .i64 a) := cell_of_row _ _ 1 _ _ _ ra
              have ma1_2 : u10.cell? ⟨w.heap.size, 2, none⟩ = some (.int .i64 cc) := cell_of_row _ _ 2 _ _ _ ra
              have ma1_3 : u10.cell? ⟨w.heap.size, 3, none⟩ = some (.int .i64 v) := cell_of_row _ _ 3 _ _ _ ra
              go_wp2_with fail
              refine bodyPost_ret (v := .tuple #[.agg #[.int .i64 k, .int .i64 a, .int .i64 cc, .int .i64 v], .int .i64 y]) (by simp [results, Try.results8, go_sem, ma1_0, ma1_1, ma1_2, ma1_3]) rfl ?_
              exact ⟨k, a, cc, v, y, rfl, c4, hy, hB⟩
            exact AllReadyH.nil
          exact AllReadyH.nil
        exact AllReadyH.nil
      exact AllReadyH.nil
    refine AllReadyH.cons rfl (fun K hK => ?_) ?_
    · have z8_0 := frzRow ra 0
      have z8_1 := frzRow ra 1
      have z8_2 := frzRow ra 2
      have z8_3 := frzRow ra 3
      have y8_0 : w7.cell? ⟨w.heap.size, 0, none⟩ = some (.int .i64 0) := cell_of_row _ _ 0 _ _ _ ra
      have y8_1 : w7.cell? ⟨w.heap.size, 1, none⟩ = some (.int .i64 0) := cell_of_row _ _ 1 _ _ _ ra
      have y8_2 : w7.cell? ⟨w.heap.size, 2, none⟩ = some (.int .i64 0) := cell_of_row _ _ 2 _ _ _ ra
      have y8_3 : w7.cell? ⟨w.heap.size, 3, none⟩ = some (.int .i64 0) := cell_of_row _ _ 3 _ _ _ ra
      replace rx := rowSet (rowSet (rowSet (rowSet (rx) ⟨w.heap.size, 0, none⟩ (.int .i64 k) (by show _ ≠ w.heap.size; omega)) ⟨w.heap.size, 1, none⟩ (.int .i64 a) (by show _ ≠ w.heap.size; omega)) ⟨w.heap.size, 2, none⟩ (.int .i64 cc) (by show _ ≠ w.heap.size; omega)) ⟨w.heap.size, 3, none⟩ (.int .i64 v) (by show _ ≠ w.heap.size; omega)
      replace ra := set43 (set42 (set41 (set40 (ra) (.int .i64 k)) (.int .i64 a)) (.int .i64 cc)) (.int .i64 v)
      clear hr
      replace hB := ((((hB).setCell (p := ⟨w.heap.size, 0, none⟩) (by show _ ≤ w.heap.size; omega) (.int .i64 k)).setCell (p := ⟨w.heap.size, 1, none⟩) (by show _ ≤ w.heap.size; omega) (.int .i64 a)).setCell (p := ⟨w.heap.size, 2, none⟩) (by show _ ≤ w.heap.size; omega) (.int .i64 cc)).setCell (p := ⟨w.heap.size, 3, none⟩) (by show _ ≤ w.heap.size; omega) (.int .i64 v)
      have s8 : w7.heap.size ≤ ((((w7.setCell ⟨w.heap.size, 0, none⟩ (.int .i64 k)).setCell ⟨w.heap.size, 1, none⟩ (.int .i64 a)).setCell ⟨w.heap.size, 2, none⟩ (.int .i64 cc)).setCell ⟨w.heap.size, 3, none⟩ (.int .i64 v)).heap.size := by simp only [World.size_setCell]; exact Nat.le_refl _
      have mx4_0 : ((((w7.setCell ⟨w.heap.size, 0, none⟩ (.int .i64 k)).setCell ⟨w.heap.size, 1, none⟩ (.int .i64 a)).setCell ⟨w.heap.size, 2, none⟩ (.int .i64 cc)).setCell ⟨w.heap.size, 3, none⟩ (.int .i64 v)).cell? ⟨w4.heap.size, 0, none⟩ = some (.int .i64 k) := cell_of_row _ _ 0 _ _ _ rx
      have mx4_1 : ((((w7.setCell ⟨w.heap.size, 0, none⟩ (.int .i64 k)).setCell ⟨w.heap.size, 1, none⟩ (.int .i64 a)).setCell ⟨w.heap.size, 2, none⟩ (.int .i64 cc)).setCell ⟨w.heap.size, 3, none⟩ (.int .i64 v)).cell? ⟨w4.heap.size, 1, none⟩ = some (.int .i64 a) := cell_of_row _ _ 1 _ _ _ rx
      have mx4_2 : ((((w7.setCell ⟨w.heap.size, 0, none⟩ (.int .i64 k)).setCell ⟨w.heap.size, 1, none⟩ (.int .i64 a)).setCell ⟨w.heap.size, 2, none⟩ (.int .i64 cc)).setCell ⟨w.heap.size, 3, none⟩ (.int .i64 v)).cell? ⟨w4.heap.size, 2, none⟩ = some (.int .i64 cc) := cell_of_row _ _ 2 _ _ _ rx
      have mx4_3 : ((((w7.setCell ⟨w.heap.size, 0, none⟩ (.int .i64 k)).setCell ⟨w.heap.size, 1, none⟩ (.int .i64 a)).setCell ⟨w.heap.size, 2, none⟩ (.int .i64 cc)).setCell ⟨w.heap.size, 3, none⟩ (.int .i64 v)).cell? ⟨w4.heap.size, 3, none⟩ = some (.int .i64 v) := cell_of_row _ _ 3 _ _ _ rx
      go_simp
      refine hK.out _ _ ⟨mx4_0, mx4_1, mx4_2, mx4_3⟩ (fun hHeld => ?_)
      clear z8_0 z8_1 z8_2 z8_3 y8_0 y8_1 y8_2 y8_3 mx3_0 mx3_1 mx3_2 mx3_3
      generalize ((((w7.setCell ⟨w.heap.size, 0, none⟩ (.int .i64 k)).setCell ⟨w.heap.size, 1, none⟩ (.int .i64 a)).setCell ⟨w.heap.size, 2, none⟩ (.int .i64 cc)).setCell ⟨w.heap.size, 3, none⟩ (.int .i64 v)) = u8 at *
      clear hK K
      try simp only [Act.put, List.getElem_toArray, List.getElem_cons_zero, List.getElem_cons_succ, List.setIfInBounds_toArray, List.set_cons_zero, List.set_cons_succ]
      refine wpAnyH_ready (rs := [2, 3]) (by kernel_rfl) (by simp) ?_
      refine AllReadyH.cons rfl (fun K hK => ?_) ?_
      · have hn9 := below_new u8 (.cells #[.int .i64 size, .int .i64 (-1), .int .i64 65] 3)
        replace ra := rowKeep ra hn9
        replace rx := rowKeep rx hn9
        replace hB := below_later hB hn9 (by omega)
        have mx5_0 : (u8.alloc (.cells #[.int .i64 size, .int .i64 (-1), .int .i64 65] 3)).cell? ⟨w4.heap.size, 0, none⟩ = some (.int .i64 k) := cell_of_row _ _ 0 _ _ _ rx
        have mx5_1 : (u8.alloc (.cells #[.int .i64 size, .int .i64 (-1), .int .i64 65] 3)).cell? ⟨w4.heap.size, 1, none⟩ = some (.int .i64 a) := cell_of_row _ _ 1 _ _ _ rx
        have mx5_2 : (u8.alloc (.cells #[.int .i64 size, .int .i64 (-1), .int .i64 65] 3)).cell? ⟨w4.heap.size, 2, none⟩ = some (.int .i64 cc) := cell_of_row _ _ 2 _ _ _ rx
        have mx5_3 : (u8.alloc (.cells #[.int .i64 size, .int .i64 (-1), .int .i64 65] 3)).cell? ⟨w4.heap.size, 3, none⟩ = some (.int .i64 v) := cell_of_row _ _ 3 _ _ _ rx
        clear hn9
        have s9 : u8.heap.size < (u8.alloc (.cells #[.int .i64 size, .int .i64 (-1), .int .i64 65] 3)).heap.size := Nat.lt_of_lt_of_eq (Nat.lt_succ_self _) (World.size_alloc _ _).symm
        have rp : (u8.alloc (.cells #[.int .i64 size, .int .i64 (-1), .int .i64 65] 3)).heap[u8.heap.size]? = some (.cells #[.int .i64 size, .int .i64 (-1), .int .i64 65] 3 (0, 0)) := by have q := heap_alloc_new u8 (.cells #[.int .i64 size, .int .i64 (-1), .int .i64 65] 3); (try simp only [World.size_alloc, World.size_setCell] at q); exact q
        go_simp
        refine hK.out _ _ ⟨mx5_0, mx5_1, mx5_2, mx5_3⟩ (fun hHeld => ?_)
        clear mx4_0 mx4_1 mx4_2 mx4_3
        generalize (u8.alloc (.cells #[.int .i64 size, .int .i64 (-1), .int .i64 65] 3)) = u9 at *
        clear hK K
        try simp only [Act.put, List.getElem_toArray, List.getElem_cons_zero, List.getElem_cons_succ, List.setIfInBounds_toArray, List.set_cons_zero, List.set_cons_succ]
        refine wpAnyH_ready (rs := [3]) (by kernel_rfl) (by simp) ?_
        refine AllReadyH.cons rfl (fun K hK => ?_) ?_
        · have hn10 := below_new u9 (.cells #[.int .i64 0, .int .i64 0, .int .i64 0, .int .i64 0, .int .i64 0, .int .i64 1, .int .i64 2] 3)
          replace ra := rowKeep ra hn10
          replace rx := rowKeep rx hn10
          replace rp := rowKeep rp hn10
          replace hB := below_later hB hn10 (by omega)
          have mx6_0 : (u9.alloc (.cells #[.int .i64 0, .int .i64 0, .int .i64 0, .int .i64 0, .int .i64 0, .int .i64 1, .int .i64 2] 3)).cell? ⟨w4.heap.size, 0, none⟩ = some (.int .i64 k) := cell_of_row _ _ 0 _ _ _ rx
          have mx6_1 : (u9.alloc (.cells #[.int .i64 0, .int .i64 0, .int .i64 0, .int .i64 0, .int .i64 0, .int .i64 1, .int .i64 2] 3)).cell? ⟨w4.heap.size, 1, none⟩ = some (.int .i64 a) := cell_of_row _ _ 1 _ _ _ rx
          have mx6_2 : (u9.alloc (.cells #[.int .i64 0, .int .i64 0, .int .i64 0, .int .i64 0, .int .i64 0, .int .i64 1, .int .i64 2] 3)).cell? ⟨w4.heap.size, 2, none⟩ = some (.int .i64 cc) := cell_of_row _ _ 2 _ _ _ rx
          have mx6_3 : (u9.alloc (.cells #[.int .i64 0, .int .i64 0, .int .i64 0, .int .i64 0, .int .i64 0, .int .i64 1, .int .i64 2] 3)).cell? ⟨w4.heap.size, 3, none⟩ = some (.int .i64 v) := cell_of_row _ _ 3 _ _ _ rx
          clear hn10
          have s10 : u9.heap.size < (u9.alloc (.cells #[.int .i64 0, .int .i64 0, .int .i64 0, .int .i64 0, .int .i64 0, .int .i64 1, .int .i64 2] 3)).heap.size := Nat.lt_of_lt_of_eq (Nat.lt_succ_self _) (World.size_alloc _ _).symm
          have rq : (u9.alloc (.cells #[.int .i64 0, .int .i64 0, .int .i64 0, .int .i64 0, .int .i64 0, .int .i64 1, .int .i64 2] 3)).heap[u9.heap.size]? = some (.cells #[.int .i64 0, .int .i64 0, .int .i64 0, .int .i64 0, .int .i64 0, .int .i64 1, .int .i64 2] 3 (0, 0)) := by have q := heap_alloc_new u9 (.cells #[.int .i64 0, .int .i64 0, .int .i64 0, .int .i64 0, .int .i64 0, .int .i64 1, .int .i64 2] 3); (try simp only [World.size_alloc, World.size_setCell] at q); exact q
          go_simp
          refine hK.out _ _ ⟨mx6_0, mx6_1, mx6_2, mx6_3⟩ (fun hHeld => ?_)
          clear mx5_0 mx5_1 mx5_2 mx5_3
          generalize (u9.alloc (.cells #[.int .i64 0, .int .i64 0, .int .i64 0, .int .i64 0, .int .i64 0, .int .i64 1, .int .i64 2] 3)) = u10 at *
          clear hK K
          try simp only [Act.put, List.getElem_toArray, List.getElem_cons_zero, List.getElem_cons_succ, List.setIfInBounds_toArray, List.set_cons_zero, List.set_cons_succ]
          refine wpAnyH_take (i := 6) (v := ?_) rfl (by kernel_rfl) (by kernel_rfl) (by kernel_rfl) (fun _ _ _ h => h) (Or.inl ⟨by rfl, ?_⟩) (by assumption) ?_
          rotate_left
          · (intro wz hSw; (try dsimp only at hSw); go_simp; try with_reducible rfl)
          simp only [Act.put, List.getElem_toArray, List.getElem_cons_zero, List.getElem_cons_succ, List.setIfInBounds_toArray, List.set_cons_zero, List.set_cons_succ]
          refine wpAnyH_ready (rs := [7]) (by kernel_rfl) (by simp) ?_
          refine AllReadyH.cons rfl (fun K hK => ?_) ?_
          · obtain ⟨i, hi, hpk⟩ := pickL (fun x => 0 ≤ x ∧ x < 3) [0, 0, 0, 0, 0, 1, 2] j (by decide) j0 j1
            obtain ⟨i0, i1⟩ := hi
            have hcv := lit_at rq hpk
            clear hpk
            go_simp
            refine hK.out _ _ ⟨mx6_0, mx6_1, mx6_2, mx6_3⟩ (fun hHeld => ?_)
            clear hK K
            try simp only [Act.put, List.getElem_toArray, List.getElem_cons_zero, List.getElem_cons_succ, List.setIfInBounds_toArray, List.set_cons_zero, List.set_cons_succ]
            refine wpAnyH_take (i := 8) (v := ?_) rfl (by kernel_rfl) (by kernel_rfl) (by kernel_rfl) (fun _ _ _ h => h) (Or.inl ⟨by rfl, ?_⟩) (by assumption) ?_
            rotate_left
            · (intro wz hSw; (try dsimp only at hSw); go_simp; try with_reducible rfl)
            simp only [Act.put, List.getElem_toArray, List.getElem_cons_zero, List.getElem_cons_succ, List.setIfInBounds_toArray, List.set_cons_zero, List.set_cons_succ]
            refine wpAnyH_ready (rs := [9]) (by kernel_rfl) (by simp) ?_
            refine AllReadyH.cons rfl (fun K hK => ?_) ?_
            · obtain ⟨y, hy, hpk⟩ := pickL (fun x => -1 ≤ x ∧ x ≤ 65) [size, (-1), 65] i (by intro z hz; simp only [List.mem_cons, List.not_mem_nil, or_false] at hz; omega) i0 i1
              have hcw := lit_at rp hpk
              clear hpk
              go_simp
              refine hK.out _ _ ⟨mx6_0, mx6_1, mx6_2, mx6_3⟩ (fun hHeld => ?_)
              clear hK K
              try simp only [Act.put, List.getElem_toArray, List.getElem_cons_zero, List.getElem_cons_succ, List.setIfInBounds_toArray, List.set_cons_zero, List.set_cons_succ]
              refine wpAnyH_take (i := 11) (v := ?_) rfl (by kernel_rfl) (by kernel_rfl) (by kernel_rfl) (fun _ _ _ h => h) (Or.inl ⟨by rfl, ?_⟩) (by assumption) ?_
              rotate_left
              · (intro wz hSw; (try dsimp only at hSw); go_simp; try with_reducible rfl)
              simp only [Act.put, List.getElem_toArray, List.getElem_cons_zero, List.getElem_cons_succ, List.setIfInBounds_toArray, List.set_cons_zero, List.set_cons_succ]
              refine wpAnyH_done (by kernel_rfl) ?_ _
              refine NoPanic.normal ?_
              have ma1_0 : u10.cell? ⟨w.heap.size, 0, none⟩ = some (.int .i64 k) := cell_of_row _ _ 0 _ _ _ ra
              have ma1_1 : u10.cell? ⟨w.heap.size, 1, none⟩ = some (.int .i64 a) := cell_of_row _ _ 1 _ _ _ ra
              have ma1_2 : u10.cell? ⟨w.heap.size, 2, none⟩ = some (.int .i64 cc) := cell_of_row _ _ 2 _ _ _ ra
              have ma1_3 : u10.cell? ⟨w.heap.size, 3, none⟩ = some (.int .i64 v) := cell_of_row _ _ 3 _ _ _ ra
              go_wp2_with fail
              refine bodyPost_ret (v := .tuple #[.agg #[.int .i64 k, .int .i64 a, .int .i64 cc, .int .i64 v], .int .i64 y]) (by simp [results, Try.results8, go_sem, ma1_0, ma1_1, ma1_2, ma1_3]) rfl ?_
              exact ⟨k, a, cc, v, y, rfl, c4, hy, hB⟩
            exact AllReadyH.nil
          exact AllReadyH.nil
        exact AllReadyH.nil
      refine AllReadyH.cons rfl (fun K hK => ?_) ?_
      · have hn9 := below_new u8 (.cells #[.int .i64 0, .int .i64 0, .int .i64 0, .int .i64 0, .int .i64 0, .int .i64 1, .int .i64 2] 3)
        replace ra := rowKeep ra hn9
        replace rx := rowKeep rx hn9
        replace hB := below_later hB hn9 (by omega)
        have mx5_0 : (u8.alloc (.cells #[.int .i64 0, .int .i64 0, .int .i64 0, .int .i64 0, .int .i64 0, .int .i64 1, .int .i64 2] 3)).cell? ⟨w4.heap.size, 0, none⟩ = some (.int .i64 k) := cell_of_row _ _ 0 _ _ _ rx
        have mx5_1 : (u8.alloc (.cells #[.int .i64 0, .int .i64 0, .int .i64 0, .int .i64 0, .int .i64 0, .int .i64 1, .int .i64 2] 3)).cell? ⟨w4.heap.size, 1, none⟩ = some (.int .i64 a) := cell_of_row _ _ 1 _ _ _ rx
        have mx5_2 : (u8.alloc (.cells #[.int .i64 0, .int .i64 0, .int .i64 0, .int .i64 0, .int .i64 0, .int .i64 1, .int .i64 2] 3)).cell? ⟨w4.heap.size, 2, none⟩ = some (.int .i64 cc) := cell_of_row _ _ 2 _ _ _ rx
        have mx5_3 : (u8.alloc (.cells #[.int .i64 0, .int .i64 0, .int .i64 0, .int .i64 0, .int .i64 0, .int .i64 1, .int .i64 2] 3)).cell? ⟨w4.heap.size, 3, none⟩ = some (.int .i64 v) := cell_of_row _ _ 3 _ _ _ rx
        clear hn9
        have s9 : u8.heap.size < (u8.alloc (.cells #[.int .i64 0, .int .i64 0, .int .i64 0, .int .i64 0, .int .i64 0, .int .i64 1, .int .i64 2] 3)).heap.size := Nat.lt_of_lt_of_eq (Nat.lt_succ_self _) (World.size_alloc _ _).symm
        have rq : (u8.alloc (.cells #[.int .i64 0, .int .i64 0, .int .i64 0, .int .i64 0, .int .i64 0, .int .i64 1, .int .i64 2] 3)).heap[u8.heap.size]? = some (.cells #[.int .i64 0, .int .i64 0, .int .i64 0, .int .i64 0, .int .i64 0, .int .i64 1, .int .i64 2] 3 (0, 0)) := by have q := heap_alloc_new u8 (.cells #[.int .i64 0, .int .i64 0, .int .i64 0, .int .i64 0, .int .i64 0, .int .i64 1, .int .i64 2] 3); (try simp only [World.size_alloc, World.size_setCell] at q); exact q
        go_simp
        refine hK.out _ _ ⟨mx5_0, mx5_1, mx5_2, mx5_3⟩ (fun hHeld => ?_)
        clear mx4_0 mx4_1 mx4_2 mx4_3
        generalize (u8.alloc (.cells #[.int .i64 0, .int .i64 0, .int .i64 0, .int .i64 0, .int .i64 0, .int .i64 1, .int .i64 2] 3)) = u9 at *
        clear hK K
        try simp only [Act.put, List.getElem_toArray, List.getElem_cons_zero, List.getElem_cons_succ, List.setIfInBounds_toArray, List.set_cons_zero, List.set_cons_succ]
        refine wpAnyH_take (i := 6) (v := ?_) rfl (by kernel_rfl) (by kernel_rfl) (by kernel_rfl) (fun _ _ _ h => h) (Or.inl ⟨by rfl, ?_⟩) (by assumption) ?_
        rotate_left
        · (intro wz hSw; (try dsimp only at hSw); go_simp; try with_reducible rfl)
        simp only [Act.put, List.getElem_toArray, List.getElem_cons_zero, List.getElem_cons_succ, List.setIfInBounds_toArray, List.set_cons_zero, List.set_cons_succ]
        refine wpAnyH_ready (rs := [2, 7]) (by kernel_rfl) (by simp) ?_
        refine AllReadyH.cons rfl (fun K hK => ?_) ?_
        · have hn10 := below_new u9 (.cells #[.int .i64 size, .int .i64 (-1), .int .i64 65] 3)
          replace ra := rowKeep ra hn10
          replace rx := rowKeep rx hn10
          replace rq := rowKeep rq hn10
          replace hB := below_later hB hn10 (by omega)
          have mx6_0 : (u9.alloc (.cells #[.int .i64 size, .int .i64 (-1), .int .i64 65] 3)).cell? ⟨w4.heap.size, 0, none⟩ = some (.int .i64 k) := cell_of_row _ _ 0 _ _ _ rx
          have mx6_1 : (u9.alloc (.cells #[.int .i64 size, .int .i64 (-1), .int .i64 65] 3)).cell? ⟨w4.heap.size, 1, none⟩ = some (.int .i64 a) := cell_of_row _ _ 1 _ _ _ rx
          have mx6_2 : (u9.alloc (.cells #[.int .i64 size, .int .i64 (-1), .int .i64 65] 3)).cell? ⟨w4.heap.size, 2, none⟩ = some (.int .i64 cc) := cell_of_row _ _ 2 _ _ _ rx
          have mx6_3 : (u9.alloc (.cells #[.int .i64 size, .int .i64 (-1), .int .i64 65] 3)).cell? ⟨w4.heap.size, 3, none⟩ = some (.int .i64 v) := cell_of_row _ _ 3 _ _ _ rx
          clear hn10
          have s10 : u9.heap.size < (u9.alloc (.cells #[.int .i64 size, .int .i64 (-1), .int .i64 65] 3)).heap.size := Nat.lt_of_lt_of_eq (Nat.lt_succ_self _) (World.size_alloc _ _).symm
          have rp : (u9.alloc (.cells #[.int .i64 size, .int .i64 (-1), .int .i64 65] 3)).heap[u9.heap.size]? = some (.cells #[.int .i64 size, .int .i64 (-1), .int .i64 65] 3 (0, 0)) := by have q := heap_alloc_new u9 (.cells #[.int .i64 size, .int .i64 (-1), .int .i64 65] 3); (try simp only [World.size_alloc, World.size_setCell] at q); exact q
          go_simp
          refine hK.out _ _ ⟨mx6_0, mx6_1, mx6_2, mx6_3⟩ (fun hHeld => ?_)
          clear mx5_0 mx5_1 mx5_2 mx5_3
          generalize (u9.alloc (.cells #[.int .i64 size, .int .i64 (-1), .int .i64 65] 3)) = u10 at *
          clear hK K
          try simp only [Act.put, List.getElem_toArray, List.getElem_cons_zero, List.getElem_cons_succ, List.setIfInBounds_toArray, List.set_cons_zero, List.set_cons_succ]
          refine wpAnyH_ready (rs := [7]) (by kernel_rfl) (by simp) ?_
          refine AllReadyH.cons rfl (fun K hK => ?_) ?_
          · obtain ⟨i, hi, hpk⟩ := pickL (fun x => 0 ≤ x ∧ x < 3) [0, 0, 0, 0, 0, 1, 2] j (by decide) j0 j1
            obtain ⟨i0, i1⟩ := hi
            have hcv := lit_at rq hpk
            clear hpk
            go_simp
            refine hK.out _ _ ⟨mx6_0, mx6_1, mx6_2, mx6_3⟩ (fun hHeld => ?_)
            clear hK K
            try simp only [Act.put, List.getElem_toArray, List.getElem_cons_zero, List.getElem_cons_succ, List.setIfInBounds_toArray, List.set_cons_zero, List.set_cons_succ]
            refine wpAnyH_take (i := 8) (v := ?_) rfl (by kernel_rfl) (by kernel_rfl) (by kernel_rfl) (fun _ _ _ h => h) (Or.inl ⟨by rfl, ?_⟩) (by assumption) ?_
            rotate_left
            · (intro wz hSw; (try dsimp only at hSw); go_simp; try with_reducible rfl)
            simp only [Act.put, List.getElem_toArray, List.getElem_cons_zero, List.getElem_cons_succ, List.setIfInBounds_toArray, List.set_cons_zero, List.set_cons_succ]
            refine wpAnyH_ready (rs := [9]) (by kernel_rfl) (by simp) ?_
            refine AllReadyH.cons rfl (fun K hK => ?_) ?_
            · obtain ⟨y, hy, hpk⟩ := pickL (fun x => -1 ≤ x ∧ x ≤ 65) [size, (-1), 65] i (by intro z hz; simp only [List.mem_cons, List.not_mem_nil, or_false] at hz; omega) i0 i1
              have hcw := lit_at rp hpk
              clear hpk
              go_simp
              refine hK.out _ _ ⟨mx6_0, mx6_1, mx6_2, mx6_3⟩ (fun hHeld => ?_)
              clear hK K
              try simp only [Act.put, List.getElem_toArray, List.getElem_cons_zero, List.getElem_cons_succ, List.setIfInBounds_toArray, List.set_cons_zero, List.set_cons_succ]
              refine wpAnyH_take (i := 11) (v := ?_) rfl (by kernel_rfl) (by kernel_rfl) (by kernel_rfl) (fun _ _ _ h => h) (Or.inl ⟨by rfl, ?_⟩) (by assumption) ?_
              rotate_left
              · (intro wz hSw; (try dsimp only at hSw); go_simp; try with_reducible rfl)
              simp only [Act.put, List.getElem_toArray, List.getElem_cons_zero, List.getElem_cons_succ, List.setIfInBounds_toArray, List.set_cons_zero, List.set_cons_succ]
              refine wpAnyH_done (by kernel_rfl) ?_ _
              refine NoPanic.normal ?_
              have ma1_0 : u10.cell? ⟨w.heap.size, 0, none⟩ = some (.int .i64 k) := cell_of_row _ _ 0 _ _ _ ra
              have ma1_1 : u10.cell? ⟨w.heap.size, 1, none⟩ = some (.int .i64 a) := cell_of_row _ _ 1 _ _ _ ra
              have ma1_2 : u10.cell? ⟨w.heap.size, 2, none⟩ = some (.int .i64 cc) := cell_of_row _ _ 2 _ _ _ ra
              have ma1_3 : u10.cell? ⟨w.heap.size, 3, none⟩ = some (.int .i64 v) := cell_of_row _ _ 3 _ _ _ ra
              go_wp2_with fail
              refine bodyPost_ret (v := .tuple #[.agg #[.int .i64 k, .int .i64 a, .int .i64 cc, .int .i64 v], .int .i64 y]) (by simp [results, Try.results8, go_sem, ma1_0, ma1_1, ma1_2, ma1_3]) rfl ?_
              exact ⟨k, a, cc, v, y, rfl, c4, hy, hB⟩
            exact AllReadyH.nil
          exact AllReadyH.nil
        refine AllReadyH.cons rfl (fun K hK => ?_) ?_
        · obtain ⟨i, hi, hpk⟩ := pickL (fun x => 0 ≤ x ∧ x < 3) [0, 0, 0, 0, 0, 1, 2] j (by decide) j0 j1
          obtain ⟨i0, i1⟩ := hi
          have hcv := lit_at rq hpk
          clear hpk
          go_simp
          refine hK.out _ _ ⟨mx5_0, mx5_1, mx5_2, mx5_3⟩ (fun hHeld => ?_)
          clear hK K
          try simp only [Act.put, List.getElem_toArray, List.getElem_cons_zero, List.getElem_cons_succ, List.setIfInBounds_toArray, List.set_cons_zero, List.set_cons_succ]
          refine wpAnyH_ready (rs := [2]) (by kernel_rfl) (by simp) ?_
          refine AllReadyH.cons rfl (fun K hK => ?_) ?_
          · have hn10 := below_new u9 (.cells #[.int .i64 size, .int .i64 (-1), .int .i64 65] 3)
            replace ra := rowKeep ra hn10
            replace rx := rowKeep rx hn10
            replace rq := rowKeep rq hn10
            replace hB := below_later hB hn10 (by omega)
            have mx6_0 : (u9.alloc (.cells #[.int .i64 size, .int .i64 (-1), .int .i64 65] 3)).cell? ⟨w4.heap.size, 0, none⟩ = some (.int .i64 k) := cell_of_row _ _ 0 _ _ _ rx
            have mx6_1 : (u9.alloc (.cells #[.int .i64 size, .int .i64 (-1), .int .i64 65] 3)).cell? ⟨w4.heap.size, 1, none⟩ = some (.int .i64 a) := cell_of_row _ _ 1 _ _ _ rx
            have mx6_2 : (u9.alloc (.cells #[.int .i64 size, .int .i64 (-1), .int .i64 65] 3)).cell? ⟨w4.heap.size, 2, none⟩ = some (.int .i64 cc) := cell_of_row _ _ 2 _ _ _ rx
            have mx6_3 : (u9.alloc (.cells #[.int .i64 size, .int .i64 (-1), .int .i64 65] 3)).cell? ⟨w4.heap.size, 3, none⟩ = some (.int .i64 v) := cell_of_row _ _ 3 _ _ _ rx
            clear hn10
            have s10 : u9.heap.size < (u9.alloc (.cells #[.int .i64 size, .int .i64 (-1), .int .i64 65] 3)).heap.size := Nat.lt_of_lt_of_eq (Nat.lt_succ_self _) (World.size_alloc _ _).symm
            have rp : (u9.alloc (.cells #[.int .i64 size, .int .i64 (-1), .int .i64 65] 3)).heap[u9.heap.size]? = some (.cells #[.int .i64 size, .int .i64 (-1), .int .i64 65] 3 (0, 0)) := by have q := heap_alloc_new u9 (.cells #[.int .i64 size, .int .i64 (-1), .int .i64 65] 3); (try simp only [World.size_alloc, World.size_setCell] at q); exact q
            go_simp
            refine hK.out _ _ ⟨mx6_0, mx6_1, mx6_2, mx6_3⟩ (fun hHeld => ?_)
            clear mx5_0 mx5_1 mx5_2 mx5_3
            generalize (u9.alloc (.cells #[.int .i64 size, .int .i64 (-1), .int .i64 65] 3)) = u10 at *
            clear hK K
            try simp only [Act.put, List.getElem_toArray, List.getElem_cons_zero, List.getElem_cons_succ, List.setIfInBounds_toArray, List.set_cons_zero, List.set_cons_succ]
            refine wpAnyH_take (i := 8) (v := ?_) rfl (by kernel_rfl) (by kernel_rfl) (by kernel_rfl) (fun _ _ _ h => h) (Or.inl ⟨by rfl, ?_⟩) (by assumption) ?_
            rotate_left
            · (intro wz hSw; (try dsimp only at hSw); go_simp; try with_reducible rfl)
            simp only [Act.put, List.getElem_toArray, List.getElem_cons_zero, List.getElem_cons_succ, List.setIfInBounds_toArray, List.set_cons_zero, List.set_cons_succ]
            refine wpAnyH_ready (rs := [9]) (by kernel_rfl) (by simp) ?_
            refine AllReadyH.cons rfl (fun K hK => ?_) ?_
            · obtain ⟨y, hy, hpk⟩ := pickL (fun x => -1 ≤ x ∧ x ≤ 65) [size, (-1), 65] i (by intro z hz; simp only [List.mem_cons, List.not_mem_nil, or_false] at hz; omega) i0 i1
              have hcw := lit_at rp hpk
              clear hpk
              go_simp
              refine hK.out _ _ ⟨mx6_0, mx6_1, mx6_2, mx6_3⟩ (fun hHeld => ?_)
              clear hK K
              try simp only [Act.put, List.getElem_toArray, List.getElem_cons_zero, List.getElem_cons_succ, List.setIfInBounds_toArray, List.set_cons_zero, List.set_cons_succ]
              refine wpAnyH_take (i := 11) (v := ?_) rfl (by kernel_rfl) (by kernel_rfl) (by kernel_rfl) (fun _ _ _ h => h) (Or.inl ⟨by rfl, ?_⟩) (by assumption) ?_
              rotate_left
              · (intro wz hSw; (try dsimp only at hSw); go_simp; try with_reducible rfl)
              simp only [Act.put, List.getElem_toArray, List.getElem_cons_zero, List.getElem_cons_succ, List.setIfInBounds_toArray, List.set_cons_zero, List.set_cons_succ]
              refine wpAnyH_done (by kernel_rfl) ?_ _
              refine NoPanic.normal ?_
              have ma1_0 : u10.cell? ⟨w.heap.size, 0, none⟩ = some (.int .i64 k) := cell_of_row _ _ 0 _ _ _ ra
              have ma1_1 : u10.cell? ⟨w.heap.size, 1, none⟩ = some (.int .i64 a) := cell_of_row _ _ 1 _ _ _ ra
              have ma1_2 : u10.cell? ⟨w.heap.size, 2, none⟩ = some (.int .i64 cc) := cell_of_row _ _ 2 _ _ _ ra
              have ma1_3 : u10.cell? ⟨w.heap.size, 3, none⟩ = some (.int .i64 v) := cell_of_row _ _ 3 _ _ _ ra
              go_wp2_with fail
              refine bodyPost_ret (v := .tuple #[.agg #[.int .i64 k, .int .i64 a, .int .i64 cc, .int .i64 v], .int .i64 y]) (by simp [results, Try.results8, go_sem, ma1_0, ma1_1, ma1_2, ma1_3]) rfl ?_
              exact ⟨k, a, cc, v, y, rfl, c4, hy, hB⟩
            exact AllReadyH.nil
          exact AllReadyH.nil
        exact AllReadyH.nil
      exact AllReadyH.nil
    exact AllReadyH.nil
  exact AllReadyH.nil
end Go.Proofs.Ytiibnkcdeldiaaa
