/-
  Walks: draws of commands with a disk, of two commands.
-/
import Derived.Test.YtiibnkcdeldiaaaC9
namespace Go.Proofs.Ytiibnkcdeldiaaa
open Go.RowKit
set_option linter.unusedSimpArgs false
set_option linter.unusedVariables false
/-- A call's end: some list and some command; nothing that was there has changed. -/
def RetDiskCmd (w : World) (en : Ending) (w' : World) : Prop :=
  ∃ A n c d, ∃ k a cc v : Int, en = .returned (.tuple #[.slice A n c, .agg #[.int .i64 k, .int .i64 a, .int .i64 cc, .int .i64 v]]) ∧ (Own w' w.heap.size w'.heap.size 3 1 A n c (ints d) ∧ n ≤ 65) ∧ (cb k ∧ cb a ∧ cb cc ∧ cb v) ∧ Below w.heap.size w w'
/-- A call's end: two commands. -/
def RetTwoCmds (w : World) (en : Ending) (w' : World) : Prop :=
  ∃ k a cc v k' a' cc' v' : Int, en = .returned (.tuple #[.agg #[.int .i64 k, .int .i64 a, .int .i64 cc, .int .i64 v], .agg #[.int .i64 k', .int .i64 a', .int .i64 cc', .int .i64 v']]) ∧ (cb k ∧ cb a ∧ cb cc ∧ cb v) ∧ (cb k' ∧ cb a' ∧ cb cc' ∧ cb v') ∧ Below w.heap.size w w'
/-- A call's end: a command and a number. -/
def RetCmdInt (w : World) (en : Ending) (w' : World) : Prop :=
  ∃ k a cc v y : Int, en = .returned (.tuple #[.agg #[.int .i64 k, .int .i64 a, .int .i64 cc, .int .i64 v], .int .i64 y]) ∧ (cb k ∧ cb a ∧ cb cc ∧ cb v) ∧ (-1 ≤ y ∧ y ≤ 65) ∧ Below w.heap.size w w'
set_option maxHeartbeats 4000000 in
theorem drawExecuteCommand_any (A : Option Addr) (n c B : Nat) (bs : List Int) (w : World) (h : Sees w B 1 A n c (byts bs)) (hB0 : B ≤ w.heap.size) (hb : ∀ v ∈ bs, 0 ≤ v ∧ v ≤ 255) :
    Calls Try.prog 16 #[.slice A n c] w (RetDiskCmd w) := by
  have hB : Below w.heap.size w w := Below.refl _ _
  have h0 := h
  clear h
  have hle : B ≤ w.heap.size := hB0
  have hn1 := below_new w (.cells #[.int .i64 0, .int .i64 0, .int .i64 0, .int .i64 0] 24)
  replace h0 := h0.below hn1 (by omega)
  replace hB := below_later hB hn1 (by omega)
  clear hn1
  have s1 : w.heap.size < (w.alloc (.cells #[.int .i64 0, .int .i64 0, .int .i64 0, .int .i64 0] 24)).heap.size := Nat.lt_of_lt_of_eq (Nat.lt_succ_self _) (World.size_alloc _ _).symm
  have ra : (w.alloc (.cells #[.int .i64 0, .int .i64 0, .int .i64 0, .int .i64 0] 24)).heap[w.heap.size]? = some (.cells #[.int .i64 0, .int .i64 0, .int .i64 0, .int .i64 0] 24 (0, 0)) := by have q := heap_alloc_new w (.cells #[.int .i64 0, .int .i64 0, .int .i64 0, .int .i64 0] 24); (try simp only [World.size_alloc, World.size_setCell] at q); exact q
  go_enter Try.func16, Try.ntmps16
  go_wp2_with fail
  generalize (w.alloc (.cells #[.int .i64 0, .int .i64 0, .int .i64 0, .int .i64 0] 24)) = u1 at *
  refine (open_any _ _ _ _ _ _ h0 (by omega) hb).mono ?_
  rintro e w2 ⟨rfl, hr, b2, s2⟩
  clear h0 hb
  have t2 : u1.heap.size < w2.heap.size := by omega
  replace ra := rowKeep ra b2
  replace hB := below_later hB b2 (by omega)
  have ma1_0 : w2.cell? ⟨w.heap.size, 0, none⟩ = some (.int .i64 0) := cell_of_row _ _ 0 _ _ _ ra
  have ma1_1 : w2.cell? ⟨w.heap.size, 1, none⟩ = some (.int .i64 0) := cell_of_row _ _ 1 _ _ _ ra
  have ma1_2 : w2.cell? ⟨w.heap.size, 2, none⟩ = some (.int .i64 0) := cell_of_row _ _ 2 _ _ _ ra
  have ma1_3 : w2.cell? ⟨w.heap.size, 3, none⟩ = some (.int .i64 0) := cell_of_row _ _ 3 _ _ _ ra
  clear b2 s2
  go_wp2_with fail
  refine (disk_any (u1.heap.size) 0 16 14 _ hr (by omega) (by omega) (by omega) (by omega)).mono ?_
  rintro e w3 ⟨Ad, nd, cd, d, q, rfl, od, hnd, hq, hr3, f3⟩
  clear hr
  have hr := hr3
  clear hr3
  have s3 := f3.size
  clear ma1_0 ma1_1 ma1_2 ma1_3
  replace ra := rowFr ra f3 (by omega)
  replace hB := f3.below hB (by omega) (by omega)
  have ma2_0 : w3.cell? ⟨w.heap.size, 0, none⟩ = some (.int .i64 0) := cell_of_row _ _ 0 _ _ _ ra
  have ma2_1 : w3.cell? ⟨w.heap.size, 1, none⟩ = some (.int .i64 0) := cell_of_row _ _ 1 _ _ _ ra
  have ma2_2 : w3.cell? ⟨w.heap.size, 2, none⟩ = some (.int .i64 0) := cell_of_row _ _ 2 _ _ _ ra
  have ma2_3 : w3.cell? ⟨w.heap.size, 3, none⟩ = some (.int .i64 0) := cell_of_row _ _ 3 _ _ _ ra
  clear f3
  go_wp2_with fail
  refine (command_any (u1.heap.size) (q) ((nd : Int)) (9) _ hr (by omega) (by omega) (by omega) (by omega) (by omega)).mono ?_
  rintro e w4 ⟨k, a, cc, v, p4, rfl, c4, d4, q4, f4⟩
  have s4 := f4.size
  clear hr
  have hr := q4
  clear q4
  obtain ⟨d4a, d4b⟩ := d4
  clear ma2_0 ma2_1 ma2_2 ma2_3
  replace ra := rowFr ra f4 (by omega)
  replace od := od.fr f4 (by omega)
  replace hB := f4.below hB (by omega) (by omega)
  have ma3_0 : w4.cell? ⟨w.heap.size, 0, none⟩ = some (.int .i64 0) := cell_of_row _ _ 0 _ _ _ ra
  have ma3_1 : w4.cell? ⟨w.heap.size, 1, none⟩ = some (.int .i64 0) := cell_of_row _ _ 1 _ _ _ ra
  have ma3_2 : w4.cell? ⟨w.heap.size, 2, none⟩ = some (.int .i64 0) := cell_of_row _ _ 2 _ _ _ ra
  have ma3_3 : w4.cell? ⟨w.heap.size, 3, none⟩ = some (.int .i64 0) := cell_of_row _ _ 3 _ _ _ ra
  clear f4
  have z5 := frzRow ra 0
  replace ra : (w4.setCell ⟨w.heap.size, 0, none⟩ (.int .i64 k)).heap[w.heap.size]? = some (.cells #[.int .i64 k, .int .i64 0, .int .i64 0, .int .i64 0] 24 (0, 0)) := by rw [heap_setCell_same _ _ 0 _ _ _ ra]; rfl
  replace od := od.setOther ⟨w.heap.size, 0, none⟩ (.int .i64 k) (by show w.heap.size < _ ∨ _ ≤ w.heap.size; omega)
  clear hr
  replace hB := hB.setCell (p := ⟨w.heap.size, 0, none⟩) (by show _ ≤ w.heap.size; omega) (.int .i64 k)
  have s5 : w4.heap.size ≤ (w4.setCell ⟨w.heap.size, 0, none⟩ (.int .i64 k)).heap.size := Nat.le_of_eq (World.size_setCell _ _ _).symm
  have ma4_0 : (w4.setCell ⟨w.heap.size, 0, none⟩ (.int .i64 k)).cell? ⟨w.heap.size, 0, none⟩ = some (.int .i64 k) := cell_of_row _ _ 0 _ _ _ ra
  have ma4_1 : (w4.setCell ⟨w.heap.size, 0, none⟩ (.int .i64 k)).cell? ⟨w.heap.size, 1, none⟩ = some (.int .i64 0) := cell_of_row _ _ 1 _ _ _ ra
  have ma4_2 : (w4.setCell ⟨w.heap.size, 0, none⟩ (.int .i64 k)).cell? ⟨w.heap.size, 2, none⟩ = some (.int .i64 0) := cell_of_row _ _ 2 _ _ _ ra
  have ma4_3 : (w4.setCell ⟨w.heap.size, 0, none⟩ (.int .i64 k)).cell? ⟨w.heap.size, 3, none⟩ = some (.int .i64 0) := cell_of_row _ _ 3 _ _ _ ra
  have z6 := frzRow ra 1
  replace ra : ((w4.setCell ⟨w.heap.size, 0, none⟩ (.int .i64 k)).setCell ⟨w.heap.size, 1, none⟩ (.int .i64 a)).heap[w.heap.size]? = some (.cells #[.int .i64 k, .int .i64 a, .int .i64 0, .int .i64 0] 24 (0, 0)) := by rw [heap_setCell_same _ _ 1 _ _ _ ra]; rfl
  replace od := od.setOther ⟨w.heap.size, 1, none⟩ (.int .i64 a) (by show w.heap.size < _ ∨ _ ≤ w.heap.size; omega)
  replace hB := hB.setCell (p := ⟨w.heap.size, 1, none⟩) (by show _ ≤ w.heap.size; omega) (.int .i64 a)
  have s6 : (w4.setCell ⟨w.heap.size, 0, none⟩ (.int .i64 k)).heap.size ≤ ((w4.setCell ⟨w.heap.size, 0, none⟩ (.int .i64 k)).setCell ⟨w.heap.size, 1, none⟩ (.int .i64 a)).heap.size := Nat.le_of_eq (World.size_setCell _ _ _).symm
  have ma5_0 : ((w4.setCell ⟨w.heap.size, 0, none⟩ (.int .i64 k)).setCell ⟨w.heap.size, 1, none⟩ (.int .i64 a)).cell? ⟨w.heap.size, 0, none⟩ = some (.int .i64 k) := cell_of_row _ _ 0 _ _ _ ra
  have ma5_1 : ((w4.setCell ⟨w.heap.size, 0, none⟩ (.int .i64 k)).setCell ⟨w.heap.size, 1, none⟩ (.int .i64 a)).cell? ⟨w.heap.size, 1, none⟩ = some (.int .i64 a) := cell_of_row _ _ 1 _ _ _ ra
  have ma5_2 : ((w4.setCell ⟨w.heap.size, 0, none⟩ (.int .i64 k)).setCell ⟨w.heap.size, 1, none⟩ (.int .i64 a)).cell? ⟨w.heap.size, 2, none⟩ = some (.int .i64 0) := cell_of_row _ _ 2 _ _ _ ra
  have ma5_3 : ((w4.setCell ⟨w.heap.size, 0, none⟩ (.int .i64 k)).setCell ⟨w.heap.size, 1, none⟩ (.int .i64 a)).cell? ⟨w.heap.size, 3, none⟩ = some (.int .i64 0) := cell_of_row _ _ 3 _ _ _ ra
  have z7 := frzRow ra 2
  replace ra : (((w4.setCell ⟨w.heap.size, 0, none⟩ (.int .i64 k)).setCell ⟨w.heap.size, 1, none⟩ (.int .i64 a)).setCell ⟨w.heap.size, 2, none⟩ (.int .i64 cc)).heap[w.heap.size]? = some (.cells #[.int .i64 k, .int .i64 a, .int .i64 cc, .int .i64 0] 24 (0, 0)) := by rw [heap_setCell_same _ _ 2 _ _ _ ra]; rfl
  replace od := od.setOther ⟨w.heap.size, 2, none⟩ (.int .i64 cc) (by show w.heap.size < _ ∨ _ ≤ w.heap.size; omega)
  replace hB := hB.setCell (p := ⟨w.heap.size, 2, none⟩) (by show _ ≤ w.heap.size; omega) (.int .i64 cc)
  have s7 : ((w4.setCell ⟨w.heap.size, 0, none⟩ (.int .i64 k)).setCell ⟨w.heap.size, 1, none⟩ (.int .i64 a)).heap.size ≤ (((w4.setCell ⟨w.heap.size, 0, none⟩ (.int .i64 k)).setCell ⟨w.heap.size, 1, none⟩ (.int .i64 a)).setCell ⟨w.heap.size, 2, none⟩ (.int .i64 cc)).heap.size := Nat.le_of_eq (World.size_setCell _ _ _).symm
  have ma6_0 : (((w4.setCell ⟨w.heap.size, 0, none⟩ (.int .i64 k)).setCell ⟨w.heap.size, 1, none⟩ (.int .i64 a)).setCell ⟨w.heap.size, 2, none⟩ (.int .i64 cc)).cell? ⟨w.heap.size, 0, none⟩ = some (.int .i64 k) := cell_of_row _ _ 0 _ _ _ ra
  have ma6_1 : (((w4.setCell ⟨w.heap.size, 0, none⟩ (.int .i64 k)).setCell ⟨w.heap.size, 1, none⟩ (.int .i64 a)).setCell ⟨w.heap.size, 2, none⟩ (.int .i64 cc)).cell? ⟨w.heap.size, 1, none⟩ = some (.int .i64 a) := cell_of_row _ _ 1 _ _ _ ra
  have ma6_2 : (((w4.setCell ⟨w.heap.size, 0, none⟩ (.int .i64 k)).setCell ⟨w.heap.size, 1, none⟩ (.int .i64 a)).setCell ⟨w.heap.size, 2, none⟩ (.int .i64 cc)).cell? ⟨w.heap.size, 2, none⟩ = some (.int .i64 cc) := cell_of_row _ _ 2 _ _ _ ra
  have ma6_3 : (((w4.setCell ⟨w.heap.size, 0, none⟩ (.int .i64 k)).setCell ⟨w.heap.size, 1, none⟩ (.int .i64 a)).setCell ⟨w.heap.size, 2, none⟩ (.int .i64 cc)).cell? ⟨w.heap.size, 3, none⟩ = some (.int .i64 0) := cell_of_row _ _ 3 _ _ _ ra
  have z8 := frzRow ra 3
  replace ra : ((((w4.setCell ⟨w.heap.size, 0, none⟩ (.int .i64 k)).setCell ⟨w.heap.size, 1, none⟩ (.int .i64 a)).setCell ⟨w.heap.size, 2, none⟩ (.int .i64 cc)).setCell ⟨w.heap.size, 3, none⟩ (.int .i64 v)).heap[w.heap.size]? = some (.cells #[.int .i64 k, .int .i64 a, .int .i64 cc, .int .i64 v] 24 (0, 0)) := by rw [heap_setCell_same _ _ 3 _ _ _ ra]; rfl
  replace od := od.setOther ⟨w.heap.size, 3, none⟩ (.int .i64 v) (by show w.heap.size < _ ∨ _ ≤ w.heap.size; omega)
  replace hB := hB.setCell (p := ⟨w.heap.size, 3, none⟩) (by show _ ≤ w.heap.size; omega) (.int .i64 v)
  have s8 : (((w4.setCell ⟨w.heap.size, 0, none⟩ (.int .i64 k)).setCell ⟨w.heap.size, 1, none⟩ (.int .i64 a)).setCell ⟨w.heap.size, 2, none⟩ (.int .i64 cc)).heap.size ≤ ((((w4.setCell ⟨w.heap.size, 0, none⟩ (.int .i64 k)).setCell ⟨w.heap.size, 1, none⟩ (.int .i64 a)).setCell ⟨w.heap.size, 2, none⟩ (.int .i64 cc)).setCell ⟨w.heap.size, 3, none⟩ (.int .i64 v)).heap.size := Nat.le_of_eq (World.size_setCell _ _ _).symm
  have ma7_0 : ((((w4.setCell ⟨w.heap.size, 0, none⟩ (.int .i64 k)).setCell ⟨w.heap.size, 1, none⟩ (.int .i64 a)).setCell ⟨w.heap.size, 2, none⟩ (.int .i64 cc)).setCell ⟨w.heap.size, 3, none⟩ (.int .i64 v)).cell? ⟨w.heap.size, 0, none⟩ = some (.int .i64 k) := cell_of_row _ _ 0 _ _ _ ra
  have ma7_1 : ((((w4.setCell ⟨w.heap.size, 0, none⟩ (.int .i64 k)).setCell ⟨w.heap.size, 1, none⟩ (.int .i64 a)).setCell ⟨w.heap.size, 2, none⟩ (.int .i64 cc)).setCell ⟨w.heap.size, 3, none⟩ (.int .i64 v)).cell? ⟨w.heap.size, 1, none⟩ = some (.int .i64 a) := cell_of_row _ _ 1 _ _ _ ra
  have ma7_2 : ((((w4.setCell ⟨w.heap.size, 0, none⟩ (.int .i64 k)).setCell ⟨w.heap.size, 1, none⟩ (.int .i64 a)).setCell ⟨w.heap.size, 2, none⟩ (.int .i64 cc)).setCell ⟨w.heap.size, 3, none⟩ (.int .i64 v)).cell? ⟨w.heap.size, 2, none⟩ = some (.int .i64 cc) := cell_of_row _ _ 2 _ _ _ ra
  have ma7_3 : ((((w4.setCell ⟨w.heap.size, 0, none⟩ (.int .i64 k)).setCell ⟨w.heap.size, 1, none⟩ (.int .i64 a)).setCell ⟨w.heap.size, 2, none⟩ (.int .i64 cc)).setCell ⟨w.heap.size, 3, none⟩ (.int .i64 v)).cell? ⟨w.heap.size, 3, none⟩ = some (.int .i64 v) := cell_of_row _ _ 3 _ _ _ ra
  go_wp2_with fail
  refine bodyPost_ret (v := .tuple #[.slice Ad nd cd, .agg #[.int .i64 k, .int .i64 a, .int .i64 cc, .int .i64 v]]) (by simp [results, Try.results16, go_sem, ma7_0, ma7_1, ma7_2, ma7_3]) rfl ?_
  exact ⟨Ad, nd, cd, d, k, a, cc, v, rfl, ⟨od.wide (by omega) (by omega), hnd⟩, c4, hB⟩
set_option maxHeartbeats 4000000 in
theorem drawCommandsClash_any (A : Option Addr) (n c B : Nat) (bs : List Int) (w : World) (h : Sees w B 1 A n c (byts bs)) (hB0 : B ≤ w.heap.size) (hb : ∀ v ∈ bs, 0 ≤ v ∧ v ≤ 255) :
    Calls Try.prog 21 #[.slice A n c] w (RetTwoCmds w) := by
  have hB : Below w.heap.size w w := Below.refl _ _
  have h0 := h
  clear h
  have hle : B ≤ w.heap.size := hB0
  have hn1 := below_new w (.cells #[.int .i64 0, .int .i64 0, .int .i64 0, .int .i64 0] 24)
  replace h0 := h0.below hn1 (by omega)
  replace hB := below_later hB hn1 (by omega)
  clear hn1
  have s1 : w.heap.size < (w.alloc (.cells #[.int .i64 0, .int .i64 0, .int .i64 0, .int .i64 0] 24)).heap.size := Nat.lt_of_lt_of_eq (Nat.lt_succ_self _) (World.size_alloc _ _).symm
  have ra : (w.alloc (.cells #[.int .i64 0, .int .i64 0, .int .i64 0, .int .i64 0] 24)).heap[w.heap.size]? = some (.cells #[.int .i64 0, .int .i64 0, .int .i64 0, .int .i64 0] 24 (0, 0)) := by have q := heap_alloc_new w (.cells #[.int .i64 0, .int .i64 0, .int .i64 0, .int .i64 0] 24); (try simp only [World.size_alloc, World.size_setCell] at q); exact q
  have hn2 := below_new (w.alloc (.cells #[.int .i64 0, .int .i64 0, .int .i64 0, .int .i64 0] 24)) (.cells #[.int .i64 0, .int .i64 0, .int .i64 0, .int .i64 0] 24)
  replace ra := rowKeep ra hn2
  replace h0 := h0.below hn2 (by omega)
  replace hB := below_later hB hn2 (by omega)
  have ma1_0 : ((w.alloc (.cells #[.int .i64 0, .int .i64 0, .int .i64 0, .int .i64 0] 24)).alloc (.cells #[.int .i64 0, .int .i64 0, .int .i64 0, .int .i64 0] 24)).cell? ⟨w.heap.size, 0, none⟩ = some (.int .i64 0) := cell_of_row _ _ 0 _ _ _ ra
  have ma1_1 : ((w.alloc (.cells #[.int .i64 0, .int .i64 0, .int .i64 0, .int .i64 0] 24)).alloc (.cells #[.int .i64 0, .int .i64 0, .int .i64 0, .int .i64 0] 24)).cell? ⟨w.heap.size, 1, none⟩ = some (.int .i64 0) := cell_of_row _ _ 1 _ _ _ ra
  have ma1_2 : ((w.alloc (.cells #[.int .i64 0, .int .i64 0, .int .i64 0, .int .i64 0] 24)).alloc (.cells #[.int .i64 0, .int .i64 0, .int .i64 0, .int .i64 0] 24)).cell? ⟨w.heap.size, 2, none⟩ = some (.int .i64 0) := cell_of_row _ _ 2 _ _ _ ra
  have ma1_3 : ((w.alloc (.cells #[.int .i64 0, .int .i64 0, .int .i64 0, .int .i64 0] 24)).alloc (.cells #[.int .i64 0, .int .i64 0, .int .i64 0, .int .i64 0] 24)).cell? ⟨w.heap.size, 3, none⟩ = some (.int .i64 0) := cell_of_row _ _ 3 _ _ _ ra
  clear hn2
  have s2 : (w.alloc (.cells #[.int .i64 0, .int .i64 0, .int .i64 0, .int .i64 0] 24)).heap.size < ((w.alloc (.cells #[.int .i64 0, .int .i64 0, .int .i64 0, .int .i64 0] 24)).alloc (.cells #[.int .i64 0, .int .i64 0, .int .i64 0, .int .i64 0] 24)).heap.size := Nat.lt_of_lt_of_eq (Nat.lt_succ_self _) (World.size_alloc _ _).symm
  have rb : ((w.alloc (.cells #[.int .i64 0, .int .i64 0, .int .i64 0, .int .i64 0] 24)).alloc (.cells #[.int .i64 0, .int .i64 0, .int .i64 0, .int .i64 0] 24)).heap[w.heap.size + 1]? = some (.cells #[.int .i64 0, .int .i64 0, .int .i64 0, .int .i64 0] 24 (0, 0)) := by have q := heap_alloc_new (w.alloc (.cells #[.int .i64 0, .int .i64 0, .int .i64 0, .int .i64 0] 24)) (.cells #[.int .i64 0, .int .i64 0, .int .i64 0, .int .i64 0] 24); (try simp only [World.size_alloc, World.size_setCell] at q); exact q
  go_enter Try.func21, Try.ntmps21
  go_wp2_with fail
  generalize (w.alloc (.cells #[.int .i64 0, .int .i64 0, .int .i64 0, .int .i64 0] 24)) = u1 at *
  generalize (u1.alloc (.cells #[.int .i64 0, .int .i64 0, .int .i64 0, .int .i64 0] 24)) = u2 at *
  refine (open_any _ _ _ _ _ _ h0 (by omega) hb).mono ?_
  rintro e w3 ⟨rfl, hr, b3, s3⟩
  clear h0 hb
  have t3 : u2.heap.size < w3.heap.size := by omega
  clear ma1_0 ma1_1 ma1_2 ma1_3
  replace ra := rowKeep ra b3
  replace rb := rowKeep rb b3
  replace hB := below_later hB b3 (by omega)
  have ma2_0 : w3.cell? ⟨w.heap.size, 0, none⟩ = some (.int .i64 0) := cell_of_row _ _ 0 _ _ _ ra
  have ma2_1 : w3.cell? ⟨w.heap.size, 1, none⟩ = some (.int .i64 0) := cell_of_row _ _ 1 _ _ _ ra
  have ma2_2 : w3.cell? ⟨w.heap.size, 2, none⟩ = some (.int .i64 0) := cell_of_row _ _ 2 _ _ _ ra
  have ma2_3 : w3.cell? ⟨w.heap.size, 3, none⟩ = some (.int .i64 0) := cell_of_row _ _ 3 _ _ _ ra
  have mb1_0 : w3.cell? ⟨w.heap.size + 1, 0, none⟩ = some (.int .i64 0) := cell_of_row _ _ 0 _ _ _ rb
  have mb1_1 : w3.cell? ⟨w.heap.size + 1, 1, none⟩ = some (.int .i64 0) := cell_of_row _ _ 1 _ _ _ rb
  have mb1_2 : w3.cell? ⟨w.heap.size + 1, 2, none⟩ = some (.int .i64 0) := cell_of_row _ _ 2 _ _ _ rb
  have mb1_3 : w3.cell? ⟨w.heap.size + 1, 3, none⟩ = some (.int .i64 0) := cell_of_row _ _ 3 _ _ _ rb
  clear b3 s3
  go_wp2_with fail
  refine (command_any (u2.heap.size) (0) (10) (14) _ hr (by omega) (by omega) (by omega) (by omega) (by omega)).mono ?_
  rintro e w4 ⟨k, a, cc, v, p4, rfl, c4, d4, q4, f4⟩
  have s4 := f4.size
  clear hr
  have hr := q4
  clear q4
  obtain ⟨d4a, d4b⟩ := d4
  clear ma2_0 ma2_1 ma2_2 ma2_3
  clear mb1_0 mb1_1 mb1_2 mb1_3
  replace ra := rowFr ra f4 (by omega)
  replace rb := rowFr rb f4 (by omega)
  replace hB := f4.below hB (by omega) (by omega)
  have ma3_0 : w4.cell? ⟨w.heap.size, 0, none⟩ = some (.int .i64 0) := cell_of_row _ _ 0 _ _ _ ra
  have ma3_1 : w4.cell? ⟨w.heap.size, 1, none⟩ = some (.int .i64 0) := cell_of_row _ _ 1 _ _ _ ra
  have ma3_2 : w4.cell? ⟨w.heap.size, 2, none⟩ = some (.int .i64 0) := cell_of_row _ _ 2 _ _ _ ra
  have ma3_3 : w4.cell? ⟨w.heap.size, 3, none⟩ = some (.int .i64 0) := cell_of_row _ _ 3 _ _ _ ra
  have mb2_0 : w4.cell? ⟨w.heap.size + 1, 0, none⟩ = some (.int .i64 0) := cell_of_row _ _ 0 _ _ _ rb
  have mb2_1 : w4.cell? ⟨w.heap.size + 1, 1, none⟩ = some (.int .i64 0) := cell_of_row _ _ 1 _ _ _ rb
  have mb2_2 : w4.cell? ⟨w.heap.size + 1, 2, none⟩ = some (.int .i64 0) := cell_of_row _ _ 2 _ _ _ rb
  have mb2_3 : w4.cell? ⟨w.heap.size + 1, 3, none⟩ = some (.int .i64 0) := cell_of_row _ _ 3 _ _ _ rb
  clear f4
  have hn5 := below_new w4 (.cells #[.int .i64 k, .int .i64 a, .int .i64 cc, .int .i64 v] 24)
  replace ra := rowKeep ra hn5
  replace rb := rowKeep rb hn5
  replace hr := hr.below hn5
  replace hB := below_later hB hn5 (by omega)
  have ma4_0 : (w4.alloc (.cells #[.int .i64 k, .int .i64 a, .int .i64 cc, .int .i64 v] 24)).cell? ⟨w.heap.size, 0, none⟩ = some (.int .i64 0) := cell_of_row _ _ 0 _ _ _ ra
  have ma4_1 : (w4.alloc (.cells #[.int .i64 k, .int .i64 a, .int .i64 cc, .int .i64 v] 24)).cell? ⟨w.heap.size, 1, none⟩ = some (.int .i64 0) := cell_of_row _ _ 1 _ _ _ ra
  have ma4_2 : (w4.alloc (.cells #[.int .i64 k, .int .i64 a, .int .i64 cc, .int .i64 v] 24)).cell? ⟨w.heap.size, 2, none⟩ = some (.int .i64 0) := cell_of_row _ _ 2 _ _ _ ra
  have ma4_3 : (w4.alloc (.cells #[.int .i64 k, .int .i64 a, .int .i64 cc, .int .i64 v] 24)).cell? ⟨w.heap.size, 3, none⟩ = some (.int .i64 0) := cell_of_row _ _ 3 _ _ _ ra
  have mb3_0 : (w4.alloc (.cells #[.int .i64 k, .int .i64 a, .int .i64 cc, .int .i64 v] 24)).cell? ⟨w.heap.size + 1, 0, none⟩ = some (.int .i64 0) := cell_of_row _ _ 0 _ _ _ rb
  have mb3_1 : (w4.alloc (.cells #[.int .i64 k, .int .i64 a, .int .i64 cc, .int .i64 v] 24)).cell? ⟨w.heap.size + 1, 1, none⟩ = some (.int .i64 0) := cell_of_row _ _ 1 _ _ _ rb
  have mb3_2 : (w4.alloc (.cells #[.int .i64 k, .int .i64 a, .int .i64 cc, .int .i64 v] 24)).cell? ⟨w.heap.size + 1, 2, none⟩ = some (.int .i64 0) := cell_of_row _ _ 2 _ _ _ rb
  have mb3_3 : (w4.alloc (.cells #[.int .i64 k, .int .i64 a, .int .i64 cc, .int .i64 v] 24)).cell? ⟨w.heap.size + 1, 3, none⟩ = some (.int .i64 0) := cell_of_row _ _ 3 _ _ _ rb
  clear hn5
  have s5 : w4.heap.size < (w4.alloc (.cells #[.int .i64 k, .int .i64 a, .int .i64 cc, .int .i64 v] 24)).heap.size := Nat.lt_of_lt_of_eq (Nat.lt_succ_self _) (World.size_alloc _ _).symm
  have rx : (w4.alloc (.cells #[.int .i64 k, .int .i64 a, .int .i64 cc, .int .i64 v] 24)).heap[w4.heap.size]? = some (.cells #[.int .i64 k, .int .i64 a, .int .i64 cc, .int .i64 v] 24 (0, 0)) := by have q := heap_alloc_new w4 (.cells #[.int .i64 k, .int .i64 a, .int .i64 cc, .int .i64 v] 24); (try simp only [World.size_alloc, World.size_setCell] at q); exact q
  have mx1_0 : (w4.alloc (.cells #[.int .i64 k, .int .i64 a, .int .i64 cc, .int .i64 v] 24)).cell? ⟨w4.heap.size, 0, none⟩ = some (.int .i64 k) := cell_of_row _ _ 0 _ _ _ rx
  have mx1_1 : (w4.alloc (.cells #[.int .i64 k, .int .i64 a, .int .i64 cc, .int .i64 v] 24)).cell? ⟨w4.heap.size, 1, none⟩ = some (.int .i64 a) := cell_of_row _ _ 1 _ _ _ rx
  have mx1_2 : (w4.alloc (.cells #[.int .i64 k, .int .i64 a, .int .i64 cc, .int .i64 v] 24)).cell? ⟨w4.heap.size, 2, none⟩ = some (.int .i64 cc) := cell_of_row _ _ 2 _ _ _ rx
  have mx1_3 : (w4.alloc (.cells #[.int .i64 k, .int .i64 a, .int .i64 cc, .int .i64 v] 24)).cell? ⟨w4.heap.size, 3, none⟩ = some (.int .i64 v) := cell_of_row _ _ 3 _ _ _ rx
  go_wp2_with fail
  clear ma3_0 ma3_1 ma3_2 ma3_3 mb2_0 mb2_1 mb2_2 mb2_3
  generalize (w4.alloc (.cells #[.int .i64 k, .int .i64 a, .int .i64 cc, .int .i64 v] 24)) = u5 at *
  have hn6 : Below u5.heap.size u5 u5.drew := below_drewN (Below.refl _ _) 1
  have s6 : u5.heap.size ≤ u5.drew.heap.size := Nat.le_refl _
  clear ma4_0 ma4_1 ma4_2 ma4_3
  clear mb3_0 mb3_1 mb3_2 mb3_3
  clear mx1_0 mx1_1 mx1_2 mx1_3
  replace ra := rowKeep ra hn6
  replace rb := rowKeep rb hn6
  replace rx := rowKeep rx hn6
  replace hr := hr.below hn6
  replace hB := below_later hB hn6 (by omega)
  have ma5_0 : u5.drew.cell? ⟨w.heap.size, 0, none⟩ = some (.int .i64 0) := cell_of_row _ _ 0 _ _ _ ra
  have ma5_1 : u5.drew.cell? ⟨w.heap.size, 1, none⟩ = some (.int .i64 0) := cell_of_row _ _ 1 _ _ _ ra
  have ma5_2 : u5.drew.cell? ⟨w.heap.size, 2, none⟩ = some (.int .i64 0) := cell_of_row _ _ 2 _ _ _ ra
  have ma5_3 : u5.drew.cell? ⟨w.heap.size, 3, none⟩ = some (.int .i64 0) := cell_of_row _ _ 3 _ _ _ ra
  have mb4_0 : u5.drew.cell? ⟨w.heap.size + 1, 0, none⟩ = some (.int .i64 0) := cell_of_row _ _ 0 _ _ _ rb
  have mb4_1 : u5.drew.cell? ⟨w.heap.size + 1, 1, none⟩ = some (.int .i64 0) := cell_of_row _ _ 1 _ _ _ rb
  have mb4_2 : u5.drew.cell? ⟨w.heap.size + 1, 2, none⟩ = some (.int .i64 0) := cell_of_row _ _ 2 _ _ _ rb
  have mb4_3 : u5.drew.cell? ⟨w.heap.size + 1, 3, none⟩ = some (.int .i64 0) := cell_of_row _ _ 3 _ _ _ rb
  have mx2_0 : u5.drew.cell? ⟨w4.heap.size, 0, none⟩ = some (.int .i64 k) := cell_of_row _ _ 0 _ _ _ rx
  have mx2_1 : u5.drew.cell? ⟨w4.heap.size, 1, none⟩ = some (.int .i64 a) := cell_of_row _ _ 1 _ _ _ rx
  have mx2_2 : u5.drew.cell? ⟨w4.heap.size, 2, none⟩ = some (.int .i64 cc) := cell_of_row _ _ 2 _ _ _ rx
  have mx2_3 : u5.drew.cell? ⟨w4.heap.size, 3, none⟩ = some (.int .i64 v) := cell_of_row _ _ 3 _ _ _ rx
  clear hn6
  refine wp_region_noPanic ?_
  refine wp_region_held_drew (S := fun w' => w'.cell? ⟨w4.heap.size, 0, none⟩ = some (.int .i64 k) ∧ w'.cell? ⟨w4.heap.size, 1, none⟩ = some (.int .i64 a) ∧ w'.cell? ⟨w4.heap.size, 2, none⟩ = some (.int .i64 cc) ∧ w'.cell? ⟨w4.heap.size, 3, none⟩ = some (.int .i64 v)) (by kernel_rfl) ⟨mx2_0, mx2_1, mx2_2, mx2_3⟩ (fun hHeld => ?_)
  generalize u5.drew = u6 at *
  refine wpAnyH_take (i := 0) (v := ?_) rfl (by kernel_rfl) (by kernel_rfl) (by kernel_rfl) (fun _ _ _ h => h) (Or.inl ⟨by rfl, ?_⟩) (by assumption) ?_
  rotate_left
  · (intro wz hSw; (try dsimp only at hSw); go_simp; try with_reducible rfl)
  simp only [Act.put, List.getElem_toArray, List.getElem_cons_zero, List.getElem_cons_succ, List.setIfInBounds_toArray, List.set_cons_zero, List.set_cons_succ]
  refine wpAnyH_take (i := 1) (v := ?_) rfl (by kernel_rfl) (by kernel_rfl) (by kernel_rfl) (fun _ _ _ h => h) (Or.inl ⟨by rfl, ?_⟩) (by assumption) ?_
  rotate_left
  · (intro wz hSw; (try dsimp only at hSw); go_simp; try with_reducible rfl)
  simp only [Act.put, List.getElem_toArray, List.getElem_cons_zero, List.getElem_cons_succ, List.setIfInBounds_toArray, List.set_cons_zero, List.set_cons_succ]
  refine wpAnyH_ready (rs := [2]) (by kernel_rfl) (by simp) ?_
  refine AllReadyH.cons rfl (fun K hK => ?_) ?_
  · go_simp
    refine (command_any (u2.heap.size) (p4) (10) (14) _ hr (by omega) (by omega) (by omega) (by omega) (by omega)).mono ?_
    rintro e w7 ⟨k', a', cc', v', p7, rfl, c7, d7, q7, f7⟩
    have s7 := f7.size
    clear hr
    have hr := q7
    clear q7
    obtain ⟨d7a, d7b⟩ := d7
    clear ma5_0 ma5_1 ma5_2 ma5_3
    clear mb4_0 mb4_1 mb4_2 mb4_3
    clear mx2_0 mx2_1 mx2_2 mx2_3
    replace ra := rowFr ra f7 (by omega)
    replace rb := rowFr rb f7 (by omega)
    replace rx := rowFr rx f7 (by omega)
    replace hB := f7.below hB (by omega) (by omega)
    have ma6_0 : w7.cell? ⟨w.heap.size, 0, none⟩ = some (.int .i64 0) := cell_of_row _ _ 0 _ _ _ ra
    have ma6_1 : w7.cell? ⟨w.heap.size, 1, none⟩ = some (.int .i64 0) := cell_of_row _ _ 1 _ _ _ ra
    have ma6_2 : w7.cell? ⟨w.heap.size, 2, none⟩ = some (.int .i64 0) := cell_of_row _ _ 2 _ _ _ ra
    have ma6_3 : w7.cell? ⟨w.heap.size, 3, none⟩ = some (.int .i64 0) := cell_of_row _ _ 3 _ _ _ ra
    have mb5_0 : w7.cell? ⟨w.heap.size + 1, 0, none⟩ = some (.int .i64 0) := cell_of_row _ _ 0 _ _ _ rb
    have mb5_1 : w7.cell? ⟨w.heap.size + 1, 1, none⟩ = some (.int .i64 0) := cell_of_row _ _ 1 _ _ _ rb
    have mb5_2 : w7.cell? ⟨w.heap.size + 1, 2, none⟩ = some (.int .i64 0) := cell_of_row _ _ 2 _ _ _ rb
    have mb5_3 : w7.cell? ⟨w.heap.size + 1, 3, none⟩ = some (.int .i64 0) := cell_of_row _ _ 3 _ _ _ rb
    have mx3_0 : w7.cell? ⟨w4.heap.size, 0, none⟩ = some (.int .i64 k) := cell_of_row _ _ 0 _ _ _ rx
    have mx3_1 : w7.cell? ⟨w4.heap.size, 1, none⟩ = some (.int .i64 a) := cell_of_row _ _ 1 _ _ _ rx
    have mx3_2 : w7.cell? ⟨w4.heap.size, 2, none⟩ = some (.int .i64 cc) := cell_of_row _ _ 2 _ _ _ rx
    have mx3_3 : w7.cell? ⟨w4.heap.size, 3, none⟩ = some (.int .i64 v) := cell_of_row _ _ 3 _ _ _ rx
    clear f7
    refine hK.out _ _ ⟨mx3_0, mx3_1, mx3_2, mx3_3⟩ (fun hHeld => ?_)
    clear hK K
    try simp only [Act.put, List.getElem_toArray, List.getElem_cons_zero, List.getElem_cons_succ, List.setIfInBounds_toArray, List.set_cons_zero, List.set_cons_succ]
    refine wpAnyH_ready (rs := [3]) (by kernel_rfl) (by simp) ?_
    refine AllReadyH.cons rfl (fun K hK => ?_) ?_
    · have z8 := frzRow ra 0
      replace rb := rowSet rb ⟨w.heap.size, 0, none⟩ (.int .i64 k) (by show _ ≠ w.heap.size; omega)
      replace rx := rowSet rx ⟨w.heap.size, 0, none⟩ (.int .i64 k) (by show _ ≠ w.heap.size; omega)
      replace ra : (w7.setCell ⟨w.heap.size, 0, none⟩ (.int .i64 k)).heap[w.heap.size]? = some (.cells #[.int .i64 k, .int .i64 0, .int .i64 0, .int .i64 0] 24 (0, 0)) := by rw [heap_setCell_same _ _ 0 _ _ _ ra]; rfl
      clear hr
      replace hB := hB.setCell (p := ⟨w.heap.size, 0, none⟩) (by show _ ≤ w.heap.size; omega) (.int .i64 k)
      have s8 : w7.heap.size ≤ (w7.setCell ⟨w.heap.size, 0, none⟩ (.int .i64 k)).heap.size := Nat.le_of_eq (World.size_setCell _ _ _).symm
      have ma7_0 : (w7.setCell ⟨w.heap.size, 0, none⟩ (.int .i64 k)).cell? ⟨w.heap.size, 0, none⟩ = some (.int .i64 k) := cell_of_row _ _ 0 _ _ _ ra
      have ma7_1 : (w7.setCell ⟨w.heap.size, 0, none⟩ (.int .i64 k)).cell? ⟨w.heap.size, 1, none⟩ = some (.int .i64 0) := cell_of_row _ _ 1 _ _ _ ra
      have ma7_2 : (w7.setCell ⟨w.heap.size, 0, none⟩ (.int .i64 k)).cell? ⟨w.heap.size, 2, none⟩ = some (.int .i64 0) := cell_of_row _ _ 2 _ _ _ ra
      have ma7_3 : (w7.setCell ⟨w.heap.size, 0, none⟩ (.int .i64 k)).cell? ⟨w.heap.size, 3, none⟩ = some (.int .i64 0) := cell_of_row _ _ 3 _ _ _ ra
      have mb6_0 : (w7.setCell ⟨w.heap.size, 0, none⟩ (.int .i64 k)).cell? ⟨w.heap.size + 1, 0, none⟩ = some (.int .i64 0) := cell_of_row _ _ 0 _ _ _ rb
      have mb6_1 : (w7.setCell ⟨w.heap.size, 0, none⟩ (.int .i64 k)).cell? ⟨w.heap.size + 1, 1, none⟩ = some (.int .i64 0) := cell_of_row _ _ 1 _ _ _ rb
      have mb6_2 : (w7.setCell ⟨w.heap.size, 0, none⟩ (.int .i64 k)).cell? ⟨w.heap.size + 1, 2, none⟩ = some (.int .i64 0) := cell_of_row _ _ 2 _ _ _ rb
      have mb6_3 : (w7.setCell ⟨w.heap.size, 0, none⟩ (.int .i64 k)).cell? ⟨w.heap.size + 1, 3, none⟩ = some (.int .i64 0) := cell_of_row _ _ 3 _ _ _ rb
      have mx4_0 : (w7.setCell ⟨w.heap.size, 0, none⟩ (.int .i64 k)).cell? ⟨w4.heap.size, 0, none⟩ = some (.int .i64 k) := cell_of_row _ _ 0 _ _ _ rx
      have mx4_1 : (w7.setCell ⟨w.heap.size, 0, none⟩ (.int .i64 k)).cell? ⟨w4.heap.size, 1, none⟩ = some (.int .i64 a) := cell_of_row _ _ 1 _ _ _ rx
      have mx4_2 : (w7.setCell ⟨w.heap.size, 0, none⟩ (.int .i64 k)).cell? ⟨w4.heap.size, 2, none⟩ = some (.int .i64 cc) := cell_of_row _ _ 2 _ _ _ rx
      have mx4_3 : (w7.setCell ⟨w.heap.size, 0, none⟩ (.int .i64 k)).cell? ⟨w4.heap.size, 3, none⟩ = some (.int .i64 v) := cell_of_row _ _ 3 _ _ _ rx
      have z9 := frzRow ra 1
      replace rb := rowSet rb ⟨w.heap.size, 1, none⟩ (.int .i64 a) (by show _ ≠ w.heap.size; omega)
      replace rx := rowSet rx ⟨w.heap.size, 1, none⟩ (.int .i64 a) (by show _ ≠ w.heap.size; omega)
      replace ra : ((w7.setCell ⟨w.heap.size, 0, none⟩ (.int .i64 k)).setCell ⟨w.heap.size, 1, none⟩ (.int .i64 a)).heap[w.heap.size]? = some (.cells #[.int .i64 k, .int .i64 a, .int .i64 0, .int .i64 0] 24 (0, 0)) := by rw [heap_setCell_same _ _ 1 _ _ _ ra]; rfl
      replace hB := hB.setCell (p := ⟨w.heap.size, 1, none⟩) (by show _ ≤ w.heap.size; omega) (.int .i64 a)
      have s9 : (w7.setCell ⟨w.heap.size, 0, none⟩ (.int .i64 k)).heap.size ≤ ((w7.setCell ⟨w.heap.size, 0, none⟩ (.int .i64 k)).setCell ⟨w.heap.size, 1, none⟩ (.int .i64 a)).heap.size := Nat.le_of_eq (World.size_setCell _ _ _).symm
      have ma8_0 : ((w7.setCell ⟨w.heap.size, 0, none⟩ (.int .i64 k)).setCell ⟨w.heap.size, 1, none⟩ (.int .i64 a)).cell? ⟨w.heap.size, 0, none⟩ = some (.int .i64 k) := cell_of_row _ _ 0 _ _ _ ra
      have ma8_1 : ((w7.setCell ⟨w.heap.size, 0, none⟩ (.int .i64 k)).setCell ⟨w.heap.size, 1, none⟩ (.int .i64 a)).cell? ⟨w.heap.size, 1, none⟩ = some (.int .i64 a) := cell_of_row _ _ 1 _ _ _ ra
      have ma8_2 : ((w7.setCell ⟨w.heap.size, 0, none⟩ (.int .i64 k)).setCell ⟨w.heap.size, 1, none⟩ (.int .i64 a)).cell? ⟨w.heap.size, 2, none⟩ = some (.int .i64 0) := cell_of_row _ _ 2 _ _ _ ra
      have ma8_3 : ((w7.setCell ⟨w.heap.size, 0, none⟩ (.int .i64 k)).setCell ⟨w.heap.size, 1, none⟩ (.int .i64 a)).cell? ⟨w.heap.size, 3, none⟩ = some (.int .i64 0) := cell_of_row _ _ 3 _ _ _ ra
      have mb7_0 : ((w7.setCell ⟨w.heap.size, 0, none⟩ (.int .i64 k)).setCell ⟨w.heap.size, 1, none⟩ (.int .i64 a)).cell? ⟨w.heap.size + 1, 0, none⟩ = some (.int .i64 0) := cell_of_row _ _ 0 _ _ _ rb
      have mb7_1 : ((w7.setCell ⟨w.heap.size, 0, none⟩ (.int .i64 k)).setCell ⟨w.heap.size, 1, none⟩ (.int .i64 a)).cell? ⟨w.heap.size + 1, 1, none⟩ = some (.int .i64 0) := cell_of_row _ _ 1 _ _ _ rb
      have mb7_2 : ((w7.setCell ⟨w.heap.size, 0, none⟩ (.int .i64 k)).setCell ⟨w.heap.size, 1, none⟩ (.int .i64 a)).cell? ⟨w.heap.size + 1, 2, none⟩ = some (.int .i64 0) := cell_of_row _ _ 2 _ _ _ rb
      have mb7_3 : ((w7.setCell ⟨w.heap.size, 0, none⟩ (.int .i64 k)).setCell ⟨w.heap.size, 1, none⟩ (.int .i64 a)).cell? ⟨w.heap.size + 1, 3, none⟩ = some (.int .i64 0) := cell_of_row _ _ 3 _ _ _ rb
      have mx5_0 : ((w7.setCell ⟨w.heap.size, 0, none⟩ (.int .i64 k)).setCell ⟨w.heap.size, 1, none⟩ (.int .i64 a)).cell? ⟨w4.heap.size, 0, none⟩ = some (.int .i64 k) := cell_of_row _ _ 0 _ _ _ rx
      have mx5_1 : ((w7.setCell ⟨w.heap.size, 0, none⟩ (.int .i64 k)).setCell ⟨w.heap.size, 1, none⟩ (.int .i64 a)).cell? ⟨w4.heap.size, 1, none⟩ = some (.int .i64 a) := cell_of_row _ _ 1 _ _ _ rx
      have mx5_2 : ((w7.setCell ⟨w.heap.size, 0, none⟩ (.int .i64 k)).setCell ⟨w.heap.size, 1, none⟩ (.int .i64 a)).cell? ⟨w4.heap.size, 2, none⟩ = some (.int .i64 cc) := cell_of_row _ _ 2 _ _ _ rx
      have mx5_3 : ((w7.setCell ⟨w.heap.size, 0, none⟩ (.int .i64 k)).setCell ⟨w.heap.size, 1, none⟩ (.int .i64 a)).cell? ⟨w4.heap.size, 3, none⟩ = some (.int .i64 v) := cell_of_row _ _ 3 _ _ _ rx
      have z10 := frzRow ra 2
      replace rb := rowSet rb ⟨w.heap.size, 2, none⟩ (.int .i64 cc) (by show _ ≠ w.heap.size; omega)
      replace rx := rowSet rx ⟨w.heap.size, 2, none⟩ (.int .i64 cc) (by show _ ≠ w.heap.size; omega)
      replace ra : (((w7.setCell ⟨w.heap.size, 0, none⟩ (.int .i64 k)).setCell ⟨w.heap.size, 1, none⟩ (.int .i64 a)).setCell ⟨w.heap.size, 2, none⟩ (.int .i64 cc)).heap[w.heap.size]? = some (.cells #[.int .i64 k, .int .i64 a, .int .i64 cc, .int .i64 0] 24 (0, 0)) := by rw [heap_setCell_same _ _ 2 _ _ _ ra]; rfl
      replace hB := hB.setCell (p := ⟨w.heap.size, 2, none⟩) (by show _ ≤ w.heap.size; omega) (.int .i64 cc)
      have s10 : ((w7.setCell ⟨w.heap.size, 0, none⟩ (.int .i64 k)).setCell ⟨w.heap.size, 1, none⟩ (.int .i64 a)).heap.size ≤ (((w7.setCell ⟨w.heap.size, 0, none⟩ (.int .i64 k)).setCell ⟨w.heap.size, 1, none⟩ (.int .i64 a)).setCell ⟨w.heap.size, 2, none⟩ (.int .i64 cc)).heap.size := Nat.le_of_eq (World.size_setCell _ _ _).symm
      have ma9_0 : (((w7.setCell ⟨w.heap.size, 0, none⟩ (.int .i64 k)).setCell ⟨w.heap.size, 1, none⟩ (.int .i64 a)).setCell ⟨w.heap.size, 2, none⟩ (.int .i64 cc)).cell? ⟨w.heap.size, 0, none⟩ = some (.int .i64 k) := cell_of_row _ _ 0 _ _ _ ra
      have ma9_1 : (((w7.setCell ⟨w.heap.size, 0, none⟩ (.int .i64 k)).setCell ⟨w.heap.size, 1, none⟩ (.int .i64 a)).setCell ⟨w.heap.size, 2, none⟩ (.int .i64 cc)).cell? ⟨w.heap.size, 1, none⟩ = some (.int .i64 a) := cell_of_row _ _ 1 _ _ _ ra
      have ma9_2 : (((w7.setCell ⟨w.heap.size, 0, none⟩ (.int .i64 k)).setCell ⟨w.heap.size, 1, none⟩ (.int .i64 a)).setCell ⟨w.heap.size, 2, none⟩ (.int .i64 cc)).cell? ⟨w.heap.size, 2, none⟩ = some (.int .i64 cc) := cell_of_row _ _ 2 _ _ _ ra
      have ma9_3 : (((w7.setCell ⟨w.heap.size, 0, none⟩ (.int .i64 k)).setCell ⟨w.heap.size, 1, none⟩ (.int .i64 a)).setCell ⟨w.heap.size, 2, none⟩ (.int .i64 cc)).cell? ⟨w.heap.size, 3, none⟩ = some (.int .i64 0) := cell_of_row _ _ 3 _ _ _ ra
      have mb8_0 : (((w7.setCell ⟨w.heap.size, 0, none⟩ (.int .i64 k)).setCell ⟨w.heap.size, 1, none⟩ (.int .i64 a)).setCell ⟨w.heap.size, 2, none⟩ (.int .i64 cc)).cell? ⟨w.heap.size + 1, 0, none⟩ = some (.int .i64 0) := cell_of_row _ _ 0 _ _ _ rb
      have mb8_1 : (((w7.setCell ⟨w.heap.size, 0, none⟩ (.int .i64 k)).setCell ⟨w.heap.size, 1, none⟩ (.int .i64 a)).setCell ⟨w.heap.size, 2, none⟩ (.int .i64 cc)).cell? ⟨w.heap.size + 1, 1, none⟩ = some (.int .i64 0) := cell_of_row _ _ 1 _ _ _ rb
      have mb8_2 : (((w7.setCell ⟨w.heap.size, 0, none⟩ (.int .i64 k)).setCell ⟨w.heap.size, 1, none⟩ (.int .i64 a)).setCell ⟨w.heap.size, 2, none⟩ (.int .i64 cc)).cell? ⟨w.heap.size + 1, 2, none⟩ = some (.int .i64 0) := cell_of_row _ _ 2 _ _ _ rb
      have mb8_3 : (((w7.setCell ⟨w.heap.size, 0, none⟩ (.int .i64 k)).setCell ⟨w.heap.size, 1, none⟩ (.int .i64 a)).setCell ⟨w.heap.size, 2, none⟩ (.int .i64 cc)).cell? ⟨w.heap.size + 1, 3, none⟩ = some (.int .i64 0) := cell_of_row _ _ 3 _ _ _ rb
      have mx6_0 : (((w7.setCell ⟨w.heap.size, 0, none⟩ (.int .i64 k)).setCell ⟨w.heap.size, 1, none⟩ (.int .i64 a)).setCell ⟨w.heap.size, 2, none⟩ (.int .i64 cc)).cell? ⟨w4.heap.size, 0, none⟩ = some (.int .i64 k) := cell_of_row _ _ 0 _ _ _ rx
      have mx6_1 : (((w7.setCell ⟨w.heap.size, 0, none⟩ (.int .i64 k)).setCell ⟨w.heap.size, 1, none⟩ (.int .i64 a)).setCell ⟨w.heap.size, 2, none⟩ (.int .i64 cc)).cell? ⟨w4.heap.size, 1, none⟩ = some (.int .i64 a) := cell_of_row _ _ 1 _ _ _ rx
      have mx6_2 : (((w7.setCell ⟨w.heap.size, 0, none⟩ (.int .i64 k)).setCell ⟨w.heap.size, 1, none⟩ (.int .i64 a)).setCell ⟨w.heap.size, 2, none⟩ (.int .i64 cc)).cell? ⟨w4.heap.size, 2, none⟩ = some (.int .i64 cc) := cell_of_row _ _ 2 _ _ _ rx
      have mx6_3 : (((w7.setCell ⟨w.heap.size, 0, none⟩ (.int .i64 k)).setCell ⟨w.heap.size, 1, none⟩ (.int .i64 a)).setCell ⟨w.heap.size, 2, none⟩ (.int .i64 cc)).cell? ⟨w4.heap.size, 3, none⟩ = some (.int .i64 v) := cell_of_row _ _ 3 _ _ _ rx
      have z11 := frzRow ra 3
      replace rb := rowSet rb ⟨w.heap.size, 3, none⟩ (.int .i64 v) (by show _ ≠ w.heap.size; omega)
      replace rx := rowSet rx ⟨w.heap.size, 3, none⟩ (.int .i64 v) (by show _ ≠ w.heap.size; omega)
      replace ra : ((((w7.setCell ⟨w.heap.size, 0, none⟩ (.int .i64 k)).setCell ⟨w.heap.size, 1, none⟩ (.int .i64 a)).setCell ⟨w.heap.size, 2, none⟩ (.int .i64 cc)).setCell ⟨w.heap.size, 3, none⟩ (.int .i64 v)).heap[w.heap.size]? = some (.cells #[.int .i64 k, .int .i64 a, .int .i64 cc, .int .i64 v] 24 (0, 0)) := by rw [heap_setCell_same _ _ 3 _ _ _ ra]; rfl
      replace hB := hB.setCell (p := ⟨w.heap.size, 3, none⟩) (by show _ ≤ w.heap.size; omega) (.int .i64 v)
      have s11 : (((w7.setCell ⟨w.heap.size, 0, none⟩ (.int .i64 k)).setCell ⟨w.heap.size, 1, none⟩ (.int .i64 a)).setCell ⟨w.heap.size, 2, none⟩ (.int .i64 cc)).heap.size ≤ ((((w7.setCell ⟨w.heap.size, 0, none⟩ (.int .i64 k)).setCell ⟨w.heap.size, 1, none⟩ (.int .i64 a)).setCell ⟨w.heap.size, 2, none⟩ (.int .i64 cc)).setCell ⟨w.heap.size, 3, none⟩ (.int .i64 v)).heap.size := Nat.le_of_eq (World.size_setCell _ _ _).symm
      have ma10_0 : ((((w7.setCell ⟨w.heap.size, 0, none⟩ (.int .i64 k)).setCell ⟨w.heap.size, 1, none⟩ (.int .i64 a)).setCell ⟨w.heap.size, 2, none⟩ (.int .i64 cc)).setCell ⟨w.heap.size, 3, none⟩ (.int .i64 v)).cell? ⟨w.heap.size, 0, none⟩ = some (.int .i64 k) := cell_of_row _ _ 0 _ _ _ ra
      have ma10_1 : ((((w7.setCell ⟨w.heap.size, 0, none⟩ (.int .i64 k)).setCell ⟨w.heap.size, 1, none⟩ (.int .i64 a)).setCell ⟨w.heap.size, 2, none⟩ (.int .i64 cc)).setCell ⟨w.heap.size, 3, none⟩ (.int .i64 v)).cell? ⟨w.heap.size, 1, none⟩ = some (.int .i64 a) := cell_of_row _ _ 1 _ _ _ ra
      have ma10_2 : ((((w7.setCell ⟨w.heap.size, 0, none⟩ (.int .i64 k)).setCell ⟨w.heap.size, 1, none⟩ (.int .i64 a)).setCell ⟨w.heap.size, 2, none⟩ (.int .i64 cc)).setCell ⟨w.heap.size, 3, none⟩ (.int .i64 v)).cell? ⟨w.heap.size, 2, none⟩ = some (.int .i64 cc) := cell_of_row _ _ 2 _ _ _ ra
      have ma10_3 : ((((w7.setCell ⟨w.heap.size, 0, none⟩ (.int .i64 k)).setCell ⟨w.heap.size, 1, none⟩ (.int .i64 a)).setCell ⟨w.heap.size, 2, none⟩ (.int .i64 cc)).setCell ⟨w.heap.size, 3, none⟩ (.int .i64 v)).cell? ⟨w.heap.size, 3, none⟩ = some (.int .i64 v) := cell_of_row _ _ 3 _ _ _ ra
      have mb9_0 : ((((w7.setCell ⟨w.heap.size, 0, none⟩ (.int .i64 k)).setCell ⟨w.heap.size, 1, none⟩ (.int .i64 a)).setCell ⟨w.heap.size, 2, none⟩ (.int .i64 cc)).setCell ⟨w.heap.size, 3, none⟩ (.int .i64 v)).cell? ⟨w.heap.size + 1, 0, none⟩ = some (.int .i64 0) := cell_of_row _ _ 0 _ _ _ rb
      have mb9_1 : ((((w7.setCell ⟨w.heap.size, 0, none⟩ (.int .i64 k)).setCell ⟨w.heap.size, 1, none⟩ (.int .i64 a)).setCell ⟨w.heap.size, 2, none⟩ (.int .i64 cc)).setCell ⟨w.heap.size, 3, none⟩ (.int .i64 v)).cell? ⟨w.heap.size + 1, 1, none⟩ = some (.int .i64 0) := cell_of_row _ _ 1 _ _ _ rb
      have mb9_2 : ((((w7.setCell ⟨w.heap.size, 0, none⟩ (.int .i64 k)).setCell ⟨w.heap.size, 1, none⟩ (.int .i64 a)).setCell ⟨w.heap.size, 2, none⟩ (.int .i64 cc)).setCell ⟨w.heap.size, 3, none⟩ (.int .i64 v)).cell? ⟨w.heap.size + 1, 2, none⟩ = some (.int .i64 0) := cell_of_row _ _ 2 _ _ _ rb
      have mb9_3 : ((((w7.setCell ⟨w.heap.size, 0, none⟩ (.int .i64 k)).setCell ⟨w.heap.size, 1, none⟩ (.int .i64 a)).setCell ⟨w.heap.size, 2, none⟩ (.int .i64 cc)).setCell ⟨w.heap.size, 3, none⟩ (.int .i64 v)).cell? ⟨w.heap.size + 1, 3, none⟩ = some (.int .i64 0) := cell_of_row _ _ 3 _ _ _ rb
      have mx7_0 : ((((w7.setCell ⟨w.heap.size, 0, none⟩ (.int .i64 k)).setCell ⟨w.heap.size, 1, none⟩ (.int .i64 a)).setCell ⟨w.heap.size, 2, none⟩ (.int .i64 cc)).setCell ⟨w.heap.size, 3, none⟩ (.int .i64 v)).cell? ⟨w4.heap.size, 0, none⟩ = some (.int .i64 k) := cell_of_row _ _ 0 _ _ _ rx
      have mx7_1 : ((((w7.setCell ⟨w.heap.size, 0, none⟩ (.int .i64 k)).setCell ⟨w.heap.size, 1, none⟩ (.int .i64 a)).setCell ⟨w.heap.size, 2, none⟩ (.int .i64 cc)).setCell ⟨w.heap.size, 3, none⟩ (.int .i64 v)).cell? ⟨w4.heap.size, 1, none⟩ = some (.int .i64 a) := cell_of_row _ _ 1 _ _ _ rx
      have mx7_2 : ((((w7.setCell ⟨w.heap.size, 0, none⟩ (.int .i64 k)).setCell ⟨w.heap.size, 1, none⟩ (.int .i64 a)).setCell ⟨w.heap.size, 2, none⟩ (.int .i64 cc)).setCell ⟨w.heap.size, 3, none⟩ (.int .i64 v)).cell? ⟨w4.heap.size, 2, none⟩ = some (.int .i64 cc) := cell_of_row _ _ 2 _ _ _ rx
      have mx7_3 : ((((w7.setCell ⟨w.heap.size, 0, none⟩ (.int .i64 k)).setCell ⟨w.heap.size, 1, none⟩ (.int .i64 a)).setCell ⟨w.heap.size, 2, none⟩ (.int .i64 cc)).setCell ⟨w.heap.size, 3, none⟩ (.int .i64 v)).cell? ⟨w4.heap.size, 3, none⟩ = some (.int .i64 v) := cell_of_row _ _ 3 _ _ _ rx
      go_simp
      refine hK.out _ _ ⟨mx7_0, mx7_1, mx7_2, mx7_3⟩ (fun hHeld => ?_)
      clear z8 ma6_0 ma6_1 ma6_2 ma6_3 mb5_0 mb5_1 mb5_2 mb5_3 mx3_0 mx3_1 mx3_2 mx3_3 z9 ma7_0 ma7_1 ma7_2 ma7_3 mb6_0 mb6_1 mb6_2 mb6_3 mx4_0 mx4_1 mx4_2 mx4_3 z10 ma8_0 ma8_1 ma8_2 ma8_3 mb7_0 mb7_1 mb7_2 mb7_3 mx5_0 mx5_1 mx5_2 mx5_3 z11 ma9_0 ma9_1 ma9_2 ma9_3 mb8_0 mb8_1 mb8_2 mb8_3 mx6_0 mx6_1 mx6_2 mx6_3
      generalize (w7.setCell ⟨w.heap.size, 0, none⟩ (.int .i64 k)) = u8 at *
      generalize (u8.setCell ⟨w.heap.size, 1, none⟩ (.int .i64 a)) = u9 at *
      generalize (u9.setCell ⟨w.heap.size, 2, none⟩ (.int .i64 cc)) = u10 at *
      generalize (u10.setCell ⟨w.heap.size, 3, none⟩ (.int .i64 v)) = u11 at *
      clear hK K
      try simp only [Act.put, List.getElem_toArray, List.getElem_cons_zero, List.getElem_cons_succ, List.setIfInBounds_toArray, List.set_cons_zero, List.set_cons_succ]
      refine wpAnyH_ready (rs := [4]) (by kernel_rfl) (by simp) ?_
      refine AllReadyH.cons rfl (fun K hK => ?_) ?_
      · have z12 := frzRow rb 0
        replace ra := rowSet ra ⟨w.heap.size + 1, 0, none⟩ (.int .i64 k') (by show _ ≠ w.heap.size + 1; omega)
        replace rx := rowSet rx ⟨w.heap.size + 1, 0, none⟩ (.int .i64 k') (by show _ ≠ w.heap.size + 1; omega)
        replace rb : (u11.setCell ⟨w.heap.size + 1, 0, none⟩ (.int .i64 k')).heap[w.heap.size + 1]? = some (.cells #[.int .i64 k', .int .i64 0, .int .i64 0, .int .i64 0] 24 (0, 0)) := by rw [heap_setCell_same _ _ 0 _ _ _ rb]; rfl
        replace hB := hB.setCell (p := ⟨w.heap.size + 1, 0, none⟩) (by show _ ≤ w.heap.size + 1; omega) (.int .i64 k')
        have s12 : u11.heap.size ≤ (u11.setCell ⟨w.heap.size + 1, 0, none⟩ (.int .i64 k')).heap.size := Nat.le_of_eq (World.size_setCell _ _ _).symm
        have ma11_0 : (u11.setCell ⟨w.heap.size + 1, 0, none⟩ (.int .i64 k')).cell? ⟨w.heap.size, 0, none⟩ = some (.int .i64 k) := cell_of_row _ _ 0 _ _ _ ra
        have ma11_1 : (u11.setCell ⟨w.heap.size + 1, 0, none⟩ (.int .i64 k')).cell? ⟨w.heap.size, 1, none⟩ = some (.int .i64 a) := cell_of_row _ _ 1 _ _ _ ra
        have ma11_2 : (u11.setCell ⟨w.heap.size + 1, 0, none⟩ (.int .i64 k')).cell? ⟨w.heap.size, 2, none⟩ = some (.int .i64 cc) := cell_of_row _ _ 2 _ _ _ ra
        have ma11_3 : (u11.setCell ⟨w.heap.size + 1, 0, none⟩ (.int .i64 k')).cell? ⟨w.heap.size, 3, none⟩ = some (.int .i64 v) := cell_of_row _ _ 3 _ _ _ ra
        have mb10_0 : (u11.setCell ⟨w.heap.size + 1, 0, none⟩ (.int .i64 k')).cell? ⟨w.heap.size + 1, 0, none⟩ = some (.int .i64 k') := cell_of_row _ _ 0 _ _ _ rb
        have mb10_1 : (u11.setCell ⟨w.heap.size + 1, 0, none⟩ (.int .i64 k')).cell? ⟨w.heap.size + 1, 1, none⟩ = some (.int .i64 0) := cell_of_row _ _ 1 _ _ _ rb
        have mb10_2 : (u11.setCell ⟨w.heap.size + 1, 0, none⟩ (.int .i64 k')).cell? ⟨w.heap.size + 1, 2, none⟩ = some (.int .i64 0) := cell_of_row _ _ 2 _ _ _ rb
        have mb10_3 : (u11.setCell ⟨w.heap.size + 1, 0, none⟩ (.int .i64 k')).cell? ⟨w.heap.size + 1, 3, none⟩ = some (.int .i64 0) := cell_of_row _ _ 3 _ _ _ rb
        have mx8_0 : (u11.setCell ⟨w.heap.size + 1, 0, none⟩ (.int .i64 k')).cell? ⟨w4.heap.size, 0, none⟩ = some (.int .i64 k) := cell_of_row _ _ 0 _ _ _ rx
        have mx8_1 : (u11.setCell ⟨w.heap.size + 1, 0, none⟩ (.int .i64 k')).cell? ⟨w4.heap.size, 1, none⟩ = some (.int .i64 a) := cell_of_row _ _ 1 _ _ _ rx
        have mx8_2 : (u11.setCell ⟨w.heap.size + 1, 0, none⟩ (.int .i64 k')).cell? ⟨w4.heap.size, 2, none⟩ = some (.int .i64 cc) := cell_of_row _ _ 2 _ _ _ rx
        have mx8_3 : (u11.setCell ⟨w.heap.size + 1, 0, none⟩ (.int .i64 k')).cell? ⟨w4.heap.size, 3, none⟩ = some (.int .i64 v) := cell_of_row _ _ 3 _ _ _ rx
        have z13 := frzRow rb 1
        replace ra := rowSet ra ⟨w.heap.size + 1, 1, none⟩ (.int .i64 a') (by show _ ≠ w.heap.size + 1; omega)
        replace rx := rowSet rx ⟨w.heap.size + 1, 1, none⟩ (.int .i64 a') (by show _ ≠ w.heap.size + 1; omega)
        replace rb : ((u11.setCell ⟨w.heap.size + 1, 0, none⟩ (.int .i64 k')).setCell ⟨w.heap.size + 1, 1, none⟩ (.int .i64 a')).heap[w.heap.size + 1]? = some (.cells #[.int .i64 k', .int .i64 a', .int .i64 0, .int .i64 0] 24 (0, 0)) := by rw [heap_setCell_same _ _ 1 _ _ _ rb]; rfl
        replace hB := hB.setCell (p := ⟨w.heap.size + 1, 1, none⟩) (by show _ ≤ w.heap.size + 1; omega) (.int .i64 a')
        have s13 : (u11.setCell ⟨w.heap.size + 1, 0, none⟩ (.int .i64 k')).heap.size ≤ ((u11.setCell ⟨w.heap.size + 1, 0, none⟩ (.int .i64 k')).setCell ⟨w.heap.size + 1, 1, none⟩ (.int .i64 a')).heap.size := Nat.le_of_eq (World.size_setCell _ _ _).symm
        have ma12_0 : ((u11.setCell ⟨w.heap.size + 1, 0, none⟩ (.int .i64 k')).setCell ⟨w.heap.size + 1, 1, none⟩ (.int .i64 a')).cell? ⟨w.heap.size, 0, none⟩ = some (.int .i64 k) := cell_of_row _ _ 0 _ _ _ ra
        have ma12_1 : ((u11.setCell ⟨w.heap.size + 1, 0, none⟩ (.int .i64 k')).setCell ⟨w.heap.size + 1, 1, none⟩ (.int .i64 a')).cell? ⟨w.heap.size, 1, none⟩ = some (.int .i64 a) := cell_of_row _ _ 1 _ _ _ ra
        have ma12_2 : ((u11.setCell ⟨w.heap.size + 1, 0, none⟩ (.int .i64 k')).setCell ⟨w.heap.size + 1, 1, none⟩ (.int .i64 a')).cell? ⟨w.heap.size, 2, none⟩ = some (.int .i64 cc) := cell_of_row _ _ 2 _ _ _ ra
        have ma12_3 : ((u11.setCell ⟨w.heap.size + 1, 0, none⟩ (.int .i64 k')).setCell ⟨w.heap.size + 1, 1, none⟩ (.int .i64 a')).cell? ⟨w.heap.size, 3, none⟩ = some (.int .i64 v) := cell_of_row _ _ 3 _ _ _ ra
        have mb11_0 : ((u11.setCell ⟨w.heap.size + 1, 0, none⟩ (.int .i64 k')).setCell ⟨w.heap.size + 1, 1, none⟩ (.int .i64 a')).cell? ⟨w.heap.size + 1, 0, none⟩ = some (.int .i64 k') := cell_of_row _ _ 0 _ _ _ rb
        have mb11_1 : ((u11.setCell ⟨w.heap.size + 1, 0, none⟩ (.int .i64 k')).setCell ⟨w.heap.size + 1, 1, none⟩ (.int .i64 a')).cell? ⟨w.heap.size + 1, 1, none⟩ = some (.int .i64 a') := cell_of_row _ _ 1 _ _ _ rb
        have mb11_2 : ((u11.setCell ⟨w.heap.size + 1, 0, none⟩ (.int .i64 k')).setCell ⟨w.heap.size + 1, 1, none⟩ (.int .i64 a')).cell? ⟨w.heap.size + 1, 2, none⟩ = some (.int .i64 0) := cell_of_row _ _ 2 _ _ _ rb
        have mb11_3 : ((u11.setCell ⟨w.heap.size + 1, 0, none⟩ (.int .i64 k')).setCell ⟨w.heap.size + 1, 1, none⟩ (.int .i64 a')).cell? ⟨w.heap.size + 1, 3, none⟩ = some (.int .i64 0) := cell_of_row _ _ 3 _ _ _ rb
        have mx9_0 : ((u11.setCell ⟨w.heap.size + 1, 0, none⟩ (.int .i64 k')).setCell ⟨w.heap.size + 1, 1, none⟩ (.int .i64 a')).cell? ⟨w4.heap.size, 0, none⟩ = some (.int .i64 k) := cell_of_row _ _ 0 _ _ _ rx
        have mx9_1 : ((u11.setCell ⟨w.heap.size + 1, 0, none⟩ (.int .i64 k')).setCell ⟨w.heap.size + 1, 1, none⟩ (.int .i64 a')).cell? ⟨w4.heap.size, 1, none⟩ = some (.int .i64 a) := cell_of_row _ _ 1 _ _ _ rx
        have mx9_2 : ((u11.setCell ⟨w.heap.size + 1, 0, none⟩ (.int .i64 k')).setCell ⟨w.heap.size + 1, 1, none⟩ (.int .i64 a')).cell? ⟨w4.heap.size, 2, none⟩ = some (.int .i64 cc) := cell_of_row _ _ 2 _ _ _ rx
        have mx9_3 : ((u11.setCell ⟨w.heap.size + 1, 0, none⟩ (.int .i64 k')).setCell ⟨w.heap.size + 1, 1, none⟩ (.int .i64 a')).cell? ⟨w4.heap.size, 3, none⟩ = some (.int .i64 v) := cell_of_row _ _ 3 _ _ _ rx
        have z14 := frzRow rb 2
        replace ra := rowSet ra ⟨w.heap.size + 1, 2, none⟩ (.int .i64 cc') (by show _ ≠ w.heap.size + 1; omega)
        replace rx := rowSet rx ⟨w.heap.size + 1, 2, none⟩ (.int .i64 cc') (by show _ ≠ w.heap.size + 1; omega)
        replace rb : (((u11.setCell ⟨w.heap.size + 1, 0, none⟩ (.int .i64 k')).setCell ⟨w.heap.size + 1, 1, none⟩ (.int .i64 a')).setCell ⟨w.heap.size + 1, 2, none⟩ (.int .i64 cc')).heap[w.heap.size + 1]? = some (.cells #[.int .i64 k', .int .i64 a', .int .i64 cc', .int .i64 0] 24 (0, 0)) := by rw [heap_setCell_same _ _ 2 _ _ _ rb]; rfl
        replace hB := hB.setCell (p := ⟨w.heap.size + 1, 2, none⟩) (by show _ ≤ w.heap.size + 1; omega) (.int .i64 cc')
        have s14 : ((u11.setCell ⟨w.heap.size + 1, 0, none⟩ (.int .i64 k')).setCell ⟨w.heap.size + 1, 1, none⟩ (.int .i64 a')).heap.size ≤ (((u11.setCell ⟨w.heap.size + 1, 0, none⟩ (.int .i64 k')).setCell ⟨w.heap.size + 1, 1, none⟩ (.int .i64 a')).setCell ⟨w.heap.size + 1, 2, none⟩ (.int .i64 cc')).heap.size := Nat.le_of_eq (World.size_setCell _ _ _).symm
        have ma13_0 : (((u11.setCell ⟨w.heap.size + 1, 0, none⟩ (.int .i64 k')).setCell ⟨w.heap.size + 1, 1, none⟩ (.int .i64 a')).setCell ⟨w.heap.size + 1, 2, none⟩ (.int .i64 cc')).cell? ⟨w.heap.size, 0, none⟩ = some (.int .i64 k) := cell_of_row _ _ 0 _ _ _ ra
        have ma13_1 : (((u11.setCell ⟨w.heap.size + 1, 0, none⟩ (.int .i64 k')).setCell ⟨w.heap.size + 1, 1, none⟩ (.int .i64 a')).setCell ⟨w.heap.size + 1, 2, none⟩ (.int .i64 cc')).cell? ⟨w.heap.size, 1, none⟩ = some (.int .i64 a) := cell_of_row _ _ 1 _ _ _ ra
        have ma13_2 : (((u11.setCell ⟨w.heap.size + 1, 0, none⟩ (.int .i64 k')).setCell ⟨w.heap.size + 1, 1, none⟩ (.int .i64 a')).setCell ⟨w.heap.size + 1, 2, none⟩ (.int .i64 cc')).cell? ⟨w.heap.size, 2, none⟩ = some (.int .i64 cc) := cell_of_row _ _ 2 _ _ _ ra
        have ma13_3 : (((u11.setCell ⟨w.heap.size + 1, 0, none⟩ (.int .i64 k')).setCell ⟨w.heap.size + 1, 1, none⟩ (.int .i64 a')).setCell ⟨w.heap.size + 1, 2, none⟩ (.int .i64 cc')).cell? ⟨w.heap.size, 3, none⟩ = some (.int .i64 v) := cell_of_row _ _ 3 _ _ _ ra
        have mb12_0 : (((u11.setCell ⟨w.heap.size + 1, 0, none⟩ (.int .i64 k')).setCell ⟨w.heap.size + 1, 1, none⟩ (.int .i64 a')).setCell ⟨w.heap.size + 1, 2, none⟩ (.int .i64 cc')).cell? ⟨w.heap.size + 1, 0, none⟩ = some (.int .i64 k') := cell_of_row _ _ 0 _ _ _ rb
        have mb12_1 : (((u11.setCell ⟨w.heap.size + 1, 0, none⟩ (.int .i64 k')).setCell ⟨w.heap.size + 1, 1, none⟩ (.int .i64 a')).setCell ⟨w.heap.size + 1, 2, none⟩ (.int .i64 cc')).cell? ⟨w.heap.size + 1, 1, none⟩ = some (.int .i64 a') := cell_of_row _ _ 1 _ _ _ rb
        have mb12_2 : (((u11.setCell ⟨w.heap.size + 1, 0, none⟩ (.int .i64 k')).setCell ⟨w.heap.size + 1, 1, none⟩ (.int .i64 a')).setCell ⟨w.heap.size + 1, 2, none⟩ (.int .i64 cc')).cell? ⟨w.heap.size + 1, 2, none⟩ = some (.int .i64 cc') := cell_of_row _ _ 2 _ _ _ rb
        have mb12_3 : (((u11.setCell ⟨w.heap.size + 1, 0, none⟩ (.int .i64 k')).setCell ⟨w.heap.size + 1, 1, none⟩ (.int .i64 a')).setCell ⟨w.heap.size + 1, 2, none⟩ (.int .i64 cc')).cell? ⟨w.heap.size + 1, 3, none⟩ = some (.int .i64 0) := cell_of_row _ _ 3 _ _ _ rb
        have mx10_0 : (((u11.setCell ⟨w.heap.size + 1, 0, none⟩ (.int .i64 k')).setCell ⟨w.heap.size + 1, 1, none⟩ (.int .i64 a')).setCell ⟨w.heap.size + 1, 2, none⟩ (.int .i64 cc')).cell? ⟨w4.heap.size, 0, none⟩ = some (.int .i64 k) := cell_of_row _ _ 0 _ _ _ rx
        have mx10_1 : (((u11.setCell ⟨w.heap.size + 1, 0, none⟩ (.int .i64 k')).setCell ⟨w.heap.size + 1, 1, none⟩ (.int .i64 a')).setCell ⟨w.heap.size + 1, 2, none⟩ (.int .i64 cc')).cell? ⟨w4.heap.size, 1, none⟩ = some (.int .i64 a) := cell_of_row _ _ 1 _ _ _ rx
        have mx10_2 : (((u11.setCell ⟨w.heap.size + 1, 0, none⟩ (.int .i64 k')).setCell ⟨w.heap.size + 1, 1, none⟩ (.int .i64 a')).setCell ⟨w.heap.size + 1, 2, none⟩ (.int .i64 cc')).cell? ⟨w4.heap.size, 2, none⟩ = some (.int .i64 cc) := cell_of_row _ _ 2 _ _ _ rx
        have mx10_3 : (((u11.setCell ⟨w.heap.size + 1, 0, none⟩ (.int .i64 k')).setCell ⟨w.heap.size + 1, 1, none⟩ (.int .i64 a')).setCell ⟨w.heap.size + 1, 2, none⟩ (.int .i64 cc')).cell? ⟨w4.heap.size, 3, none⟩ = some (.int .i64 v) := cell_of_row _ _ 3 _ _ _ rx
        have z15 := frzRow rb 3
        replace ra := rowSet ra ⟨w.heap.size + 1, 3, none⟩ (.int .i64 v') (by show _ ≠ w.heap.size + 1; omega)
        replace rx := rowSet rx ⟨w.heap.size + 1, 3, none⟩ (.int .i64 v') (by show _ ≠ w.heap.size + 1; omega)
        replace rb : ((((u11.setCell ⟨w.heap.size + 1, 0, none⟩ (.int .i64 k')).setCell ⟨w.heap.size + 1, 1, none⟩ (.int .i64 a')).setCell ⟨w.heap.size + 1, 2, none⟩ (.int .i64 cc')).setCell ⟨w.heap.size + 1, 3, none⟩ (.int .i64 v')).heap[w.heap.size + 1]? = some (.cells #[.int .i64 k', .int .i64 a', .int .i64 cc', .int .i64 v'] 24 (0, 0)) := by rw [heap_setCell_same _ _ 3 _ _ _ rb]; rfl
        replace hB := hB.setCell (p := ⟨w.heap.size + 1, 3, none⟩) (by show _ ≤ w.heap.size + 1; omega) (.int .i64 v')
        have s15 : (((u11.setCell ⟨w.heap.size + 1, 0, none⟩ (.int .i64 k')).setCell ⟨w.heap.size + 1, 1, none⟩ (.int .i64 a')).setCell ⟨w.heap.size + 1, 2, none⟩ (.int .i64 cc')).heap.size ≤ ((((u11.setCell ⟨w.heap.size + 1, 0, none⟩ (.int .i64 k')).setCell ⟨w.heap.size + 1, 1, none⟩ (.int .i64 a')).setCell ⟨w.heap.size + 1, 2, none⟩ (.int .i64 cc')).setCell ⟨w.heap.size + 1, 3, none⟩ (.int .i64 v')).heap.size := Nat.le_of_eq (World.size_setCell _ _ _).symm
        have ma14_0 : ((((u11.setCell ⟨w.heap.size + 1, 0, none⟩ (.int .i64 k')).setCell ⟨w.heap.size + 1, 1, none⟩ (.int .i64 a')).setCell ⟨w.heap.size + 1, 2, none⟩ (.int .i64 cc')).setCell ⟨w.heap.size + 1, 3, none⟩ (.int .i64 v')).cell? ⟨w.heap.size, 0, none⟩ = some (.int .i64 k) := cell_of_row _ _ 0 _ _ _ ra
        have ma14_1 : ((((u11.setCell ⟨w.heap.size + 1, 0, none⟩ (.int .i64 k')).setCell ⟨w.heap.size + 1, 1, none⟩ (.int .i64 a')).setCell ⟨w.heap.size + 1, 2, none⟩ (.int .i64 cc')).setCell ⟨w.heap.size + 1, 3, none⟩ (.int .i64 v')).cell? ⟨w.heap.size, 1, none⟩ = some (.int .i64 a) := cell_of_row _ _ 1 _ _ _ ra
        have ma14_2 : ((((u11.setCell ⟨w.heap.size + 1, 0, none⟩ (.int .i64 k')).setCell ⟨w.heap.size + 1, 1, none⟩ (.int .i64 a')).setCell ⟨w.heap.size + 1, 2, none⟩ (.int .i64 cc')).setCell ⟨w.heap.size + 1, 3, none⟩ (.int .i64 v')).cell? ⟨w.heap.size, 2, none⟩ = some (.int .i64 cc) := cell_of_row _ _ 2 _ _ _ ra
        have ma14_3 : ((((u11.setCell ⟨w.heap.size + 1, 0, none⟩ (.int .i64 k')).setCell ⟨w.heap.size + 1, 1, none⟩ (.int .i64 a')).setCell ⟨w.heap.size + 1, 2, none⟩ (.int .i64 cc')).setCell ⟨w.heap.size + 1, 3, none⟩ (.int .i64 v')).cell? ⟨w.heap.size, 3, none⟩ = some (.int .i64 v) := cell_of_row _ _ 3 _ _ _ ra
        have mb13_0 : ((((u11.setCell ⟨w.heap.size + 1, 0, none⟩ (.int .i64 k')).setCell ⟨w.heap.size + 1, 1, none⟩ (.int .i64 a')).setCell ⟨w.heap.size + 1, 2, none⟩ (.int .i64 cc')).setCell ⟨w.heap.size + 1, 3, none⟩ (.int .i64 v')).cell? ⟨w.heap.size + 1, 0, none⟩ = some (.int .i64 k') := cell_of_row _ _ 0 _ _ _ rb
        have mb13_1 : ((((u11.setCell ⟨w.heap.size + 1, 0, none⟩ (.int .i64 k')).setCell ⟨w.heap.size + 1, 1, none⟩ (.int .i64 a')).setCell ⟨w.heap.size + 1, 2, none⟩ (.int .i64 cc')).setCell ⟨w.heap.size + 1, 3, none⟩ (.int .i64 v')).cell? ⟨w.heap.size + 1, 1, none⟩ = some (.int .i64 a') := cell_of_row _ _ 1 _ _ _ rb
        have mb13_2 : ((((u11.setCell ⟨w.heap.size + 1, 0, none⟩ (.int .i64 k')).setCell ⟨w.heap.size + 1, 1, none⟩ (.int .i64 a')).setCell ⟨w.heap.size + 1, 2, none⟩ (.int .i64 cc')).setCell ⟨w.heap.size + 1, 3, none⟩ (.int .i64 v')).cell? ⟨w.heap.size + 1, 2, none⟩ = some (.int .i64 cc') := cell_of_row _ _ 2 _ _ _ rb
        have mb13_3 : ((((u11.setCell ⟨w.heap.size + 1, 0, none⟩ (.int .i64 k')).setCell ⟨w.heap.size + 1, 1, none⟩ (.int .i64 a')).setCell ⟨w.heap.size + 1, 2, none⟩ (.int .i64 cc')).setCell ⟨w.heap.size + 1, 3, none⟩ (.int .i64 v')).cell? ⟨w.heap.size + 1, 3, none⟩ = some (.int .i64 v') := cell_of_row _ _ 3 _ _ _ rb
        have mx11_0 : ((((u11.setCell ⟨w.heap.size + 1, 0, none⟩ (.int .i64 k')).setCell ⟨w.heap.size + 1, 1, none⟩ (.int .i64 a')).setCell ⟨w.heap.size + 1, 2, none⟩ (.int .i64 cc')).setCell ⟨w.heap.size + 1, 3, none⟩ (.int .i64 v')).cell? ⟨w4.heap.size, 0, none⟩ = some (.int .i64 k) := cell_of_row _ _ 0 _ _ _ rx
        have mx11_1 : ((((u11.setCell ⟨w.heap.size + 1, 0, none⟩ (.int .i64 k')).setCell ⟨w.heap.size + 1, 1, none⟩ (.int .i64 a')).setCell ⟨w.heap.size + 1, 2, none⟩ (.int .i64 cc')).setCell ⟨w.heap.size + 1, 3, none⟩ (.int .i64 v')).cell? ⟨w4.heap.size, 1, none⟩ = some (.int .i64 a) := cell_of_row _ _ 1 _ _ _ rx
        have mx11_2 : ((((u11.setCell ⟨w.heap.size + 1, 0, none⟩ (.int .i64 k')).setCell ⟨w.heap.size + 1, 1, none⟩ (.int .i64 a')).setCell ⟨w.heap.size + 1, 2, none⟩ (.int .i64 cc')).setCell ⟨w.heap.size + 1, 3, none⟩ (.int .i64 v')).cell? ⟨w4.heap.size, 2, none⟩ = some (.int .i64 cc) := cell_of_row _ _ 2 _ _ _ rx
        have mx11_3 : ((((u11.setCell ⟨w.heap.size + 1, 0, none⟩ (.int .i64 k')).setCell ⟨w.heap.size + 1, 1, none⟩ (.int .i64 a')).setCell ⟨w.heap.size + 1, 2, none⟩ (.int .i64 cc')).setCell ⟨w.heap.size + 1, 3, none⟩ (.int .i64 v')).cell? ⟨w4.heap.size, 3, none⟩ = some (.int .i64 v) := cell_of_row _ _ 3 _ _ _ rx
        go_simp
        refine hK.out _ _ ⟨mx11_0, mx11_1, mx11_2, mx11_3⟩ (fun hHeld => ?_)
        clear z12 ma10_0 ma10_1 ma10_2 ma10_3 mb9_0 mb9_1 mb9_2 mb9_3 mx7_0 mx7_1 mx7_2 mx7_3 z13 ma11_0 ma11_1 ma11_2 ma11_3 mb10_0 mb10_1 mb10_2 mb10_3 mx8_0 mx8_1 mx8_2 mx8_3 z14 ma12_0 ma12_1 ma12_2 ma12_3 mb11_0 mb11_1 mb11_2 mb11_3 mx9_0 mx9_1 mx9_2 mx9_3 z15 ma13_0 ma13_1 ma13_2 ma13_3 mb12_0 mb12_1 mb12_2 mb12_3 mx10_0 mx10_1 mx10_2 mx10_3
        generalize (u11.setCell ⟨w.heap.size + 1, 0, none⟩ (.int .i64 k')) = u12 at *
        generalize (u12.setCell ⟨w.heap.size + 1, 1, none⟩ (.int .i64 a')) = u13 at *
        generalize (u13.setCell ⟨w.heap.size + 1, 2, none⟩ (.int .i64 cc')) = u14 at *
        generalize (u14.setCell ⟨w.heap.size + 1, 3, none⟩ (.int .i64 v')) = u15 at *
        clear hK K
        try simp only [Act.put, List.getElem_toArray, List.getElem_cons_zero, List.getElem_cons_succ, List.setIfInBounds_toArray, List.set_cons_zero, List.set_cons_succ]
        refine wpAnyH_done (by kernel_rfl) ?_ _
        refine NoPanic.normal ?_
        go_wp2_with fail
        refine bodyPost_ret (v := .tuple #[.agg #[.int .i64 k, .int .i64 a, .int .i64 cc, .int .i64 v], .agg #[.int .i64 k', .int .i64 a', .int .i64 cc', .int .i64 v']]) (by simp [results, Try.results21, go_sem, ma14_0, ma14_1, ma14_2, ma14_3, mb13_0, mb13_1, mb13_2, mb13_3]) rfl ?_
        exact ⟨k, a, cc, v, k', a', cc', v', rfl, c4, c7, hB⟩
      exact AllReadyH.nil
    exact AllReadyH.nil
  exact AllReadyH.nil
end Go.Proofs.Ytiibnkcdeldiaaa
