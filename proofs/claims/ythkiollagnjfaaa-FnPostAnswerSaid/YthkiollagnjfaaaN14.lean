/-
  Walks: the draws of rings of answers.
-/
import Derived.Test.YthkiollagnjfaaaN13
namespace Go.Proofs.Ythkiollagnjfaaa
open Go.RowKit
set_option linter.unusedSimpArgs false
set_option linter.unusedVariables false
/-- A call's end: some number within bounds; nothing that was there has changed. -/
def RetNumIn (w : World) (lo hi : Int) (en : Ending) (w' : World) : Prop := ∃ k : Int, en = .returned (.int .i64 k) ∧ (lo ≤ k ∧ k ≤ hi) ∧ Below w.heap.size w w'
/-- A call's end: some ring of answers in new memory; nothing that was there has changed. -/
def RetSomeAns (w : World) (en : Ending) (w' : World) : Prop :=
  ∃ A c d ps pp tk tp pd, en = .returned (.agg #[.slice A (List.length d) c, .int .i64 ps, .bool pp, .int .i64 tk, .bool tp, .int .i64 pd]) ∧ (Own w' w.heap.size w'.heap.size 46 2 A (List.length d) c (ansC d) ∧ List.length d ≤ 17) ∧ Below w.heap.size w w'
def RetAnsInt (w : World) (en : Ending) (w' : World) : Prop :=
  ∃ A c d ps pp tk tp pd v, en = .returned (.tuple #[.agg #[.slice A (List.length d) c, .int .i64 ps, .bool pp, .int .i64 tk, .bool tp, .int .i64 pd], .int .i64 v]) ∧ (Own w' w.heap.size w'.heap.size 46 2 A (List.length d) c (ansC d) ∧ List.length d ≤ 17) ∧ (0 ≤ v ∧ v < 100) ∧ Below w.heap.size w w'
set_option maxHeartbeats 4000000 in
theorem drawNewAnswers_any (A : Option Addr) (n c B : Nat) (bs : List Int) (w : World) (h : Sees w B 1 A n c (byts bs)) (hB0 : B ≤ w.heap.size) (hb : ∀ v ∈ bs, 0 ≤ v ∧ v ≤ 255) :
    Calls Try.prog 21 #[.slice A n c] w (RetNumIn w (-1) 18) := by
  have hB : Below w.heap.size w w := Below.refl _ _
  have h0 := h
  clear h
  have hle : B ≤ w.heap.size := hB0
  go_enter Try.func21, Try.ntmps21
  go_wp2_with fail
  refine (open_any _ _ _ _ _ _ h0 (by omega) hb).mono ?_
  rintro e w1 ⟨rfl, hr, b1, s1⟩
  clear h0 hb
  have t1 : w.heap.size < w1.heap.size := by omega
  replace hB := below_later hB b1 (by omega)
  clear b1 s1
  go_wp2_with fail
  refine (pick_any (w.heap.size) (0) (20) _ hr (by omega)).mono ?_
  rintro e w2 ⟨k, rfl, h2, q2, f2, e2⟩
  have s2 := f2.size
  clear hr
  have hr := q2
  clear q2
  replace hB := f2.below hB (by omega) (by omega)
  clear f2
  obtain ⟨k0, k1⟩ : 0 ≤ k ∧ k < 20 := by omega
  clear h2 e2
  have e1 : IntKind.i64.wrap (k - 1) = k - 1 := IntWalk.i64_in _ (by omega)
  go_wp2_with fail
  go_ret
  exact ⟨_, rfl, by omega, hB⟩
set_option maxHeartbeats 4000000 in
theorem drawAnswersValid_any (A : Option Addr) (n c B : Nat) (bs : List Int) (w : World) (h : Sees w B 1 A n c (byts bs)) (hB0 : B ≤ w.heap.size) (hb : ∀ v ∈ bs, 0 ≤ v ∧ v ≤ 255) :
    Calls Try.prog 26 #[.slice A n c] w (RetSomeAns w) := by
  have hB : Below w.heap.size w w := Below.refl _ _
  have h0 := h
  clear h
  have hle : B ≤ w.heap.size := hB0
  have hn1 := below_new w (.cells #[.slice none 0 0, .int .i64 0, .bool false, .int .i64 0, .bool false, .int .i64 0] 24)
  replace h0 := h0.below hn1 (by omega)
  replace hB := below_later hB hn1 (by omega)
  clear hn1
  have s1 : w.heap.size < (w.alloc (.cells #[.slice none 0 0, .int .i64 0, .bool false, .int .i64 0, .bool false, .int .i64 0] 24)).heap.size := Nat.lt_of_lt_of_eq (Nat.lt_succ_self _) (World.size_alloc _ _).symm
  have rr : (w.alloc (.cells #[.slice none 0 0, .int .i64 0, .bool false, .int .i64 0, .bool false, .int .i64 0] 24)).heap[w.heap.size]? = some (.cells #[.slice none 0 0, .int .i64 0, .bool false, .int .i64 0, .bool false, .int .i64 0] 24 (0, 0)) := by have q := heap_alloc_new w (.cells #[.slice none 0 0, .int .i64 0, .bool false, .int .i64 0, .bool false, .int .i64 0] 24); (try simp only [World.size_alloc, World.size_setCell] at q); exact q
  go_enter Try.func26, Try.ntmps26
  go_wp2_with fail
  generalize (w.alloc (.cells #[.slice none 0 0, .int .i64 0, .bool false, .int .i64 0, .bool false, .int .i64 0] 24)) = u1 at *
  refine (open_any _ _ _ _ _ _ h0 (by omega) hb).mono ?_
  rintro e w2 ⟨rfl, hr, b2, s2⟩
  clear h0 hb
  have t2 : u1.heap.size < w2.heap.size := by omega
  replace rr := rowKeep rr b2
  replace hB := below_later hB b2 (by omega)
  clear b2 s2
  go_wp2_with fail
  refine (answers_any (u1.heap.size) 0 2 _ hr (by omega) (by omega) (by omega)).mono ?_
  rintro e w3 ⟨A2, c2, d, ps, pp, tk, tp, pd, q, rfl, ⟨o2, hd17⟩, hq, hr3, f3⟩
  clear hr
  have hr := hr3
  clear hr3
  have s3 := f3.size
  replace rr := rowFr rr f3 (by omega)
  replace hB := f3.below hB (by omega) (by omega)
  clear f3
  clear hr
  have z4_0 := frzRow rr 0
  have z4_1 := frzRow rr 1
  have z4_2 := frzRow rr 2
  have z4_3 := frzRow rr 3
  have z4_4 := frzRow rr 4
  have z4_5 := frzRow rr 5
  have y4_0 : w3.cell? ⟨w.heap.size, 0, none⟩ = some (.slice none 0 0) := cell_of_row _ _ 0 _ _ _ rr
  have y4_1 : w3.cell? ⟨w.heap.size, 1, none⟩ = some (.int .i64 0) := cell_of_row _ _ 1 _ _ _ rr
  have y4_2 : w3.cell? ⟨w.heap.size, 2, none⟩ = some (.bool false) := cell_of_row _ _ 2 _ _ _ rr
  have y4_3 : w3.cell? ⟨w.heap.size, 3, none⟩ = some (.int .i64 0) := cell_of_row _ _ 3 _ _ _ rr
  have y4_4 : w3.cell? ⟨w.heap.size, 4, none⟩ = some (.bool false) := cell_of_row _ _ 4 _ _ _ rr
  have y4_5 : w3.cell? ⟨w.heap.size, 5, none⟩ = some (.int .i64 0) := cell_of_row _ _ 5 _ _ _ rr
  replace rr := put5 (put4 (put3 (put2 (put1 (put0 (rr) (.slice A2 d.length c2)) (.int .i64 ps)) (.bool pp)) (.int .i64 tk)) (.bool tp)) (.int .i64 pd)
  replace o2 := ((((((o2).setOther ⟨w.heap.size, 0, none⟩ (.slice A2 d.length c2) (by show w.heap.size < _ ∨ _ ≤ w.heap.size; omega)).setOther ⟨w.heap.size, 1, none⟩ (.int .i64 ps) (by show w.heap.size < _ ∨ _ ≤ w.heap.size; omega)).setOther ⟨w.heap.size, 2, none⟩ (.bool pp) (by show w.heap.size < _ ∨ _ ≤ w.heap.size; omega)).setOther ⟨w.heap.size, 3, none⟩ (.int .i64 tk) (by show w.heap.size < _ ∨ _ ≤ w.heap.size; omega)).setOther ⟨w.heap.size, 4, none⟩ (.bool tp) (by show w.heap.size < _ ∨ _ ≤ w.heap.size; omega)).setOther ⟨w.heap.size, 5, none⟩ (.int .i64 pd) (by show w.heap.size < _ ∨ _ ≤ w.heap.size; omega)
  replace hB := ((((((hB).setCell (p := ⟨w.heap.size, 0, none⟩) (by show _ ≤ w.heap.size; omega) (.slice A2 d.length c2)).setCell (p := ⟨w.heap.size, 1, none⟩) (by show _ ≤ w.heap.size; omega) (.int .i64 ps)).setCell (p := ⟨w.heap.size, 2, none⟩) (by show _ ≤ w.heap.size; omega) (.bool pp)).setCell (p := ⟨w.heap.size, 3, none⟩) (by show _ ≤ w.heap.size; omega) (.int .i64 tk)).setCell (p := ⟨w.heap.size, 4, none⟩) (by show _ ≤ w.heap.size; omega) (.bool tp)).setCell (p := ⟨w.heap.size, 5, none⟩) (by show _ ≤ w.heap.size; omega) (.int .i64 pd)
  have s4 : w3.heap.size ≤ ((((((w3.setCell ⟨w.heap.size, 0, none⟩ (.slice A2 d.length c2)).setCell ⟨w.heap.size, 1, none⟩ (.int .i64 ps)).setCell ⟨w.heap.size, 2, none⟩ (.bool pp)).setCell ⟨w.heap.size, 3, none⟩ (.int .i64 tk)).setCell ⟨w.heap.size, 4, none⟩ (.bool tp)).setCell ⟨w.heap.size, 5, none⟩ (.int .i64 pd)).heap.size := by simp only [World.size_setCell]; exact Nat.le_refl _
  have mr1_0 : ((((((w3.setCell ⟨w.heap.size, 0, none⟩ (.slice A2 d.length c2)).setCell ⟨w.heap.size, 1, none⟩ (.int .i64 ps)).setCell ⟨w.heap.size, 2, none⟩ (.bool pp)).setCell ⟨w.heap.size, 3, none⟩ (.int .i64 tk)).setCell ⟨w.heap.size, 4, none⟩ (.bool tp)).setCell ⟨w.heap.size, 5, none⟩ (.int .i64 pd)).cell? ⟨w.heap.size, 0, none⟩ = some (.slice A2 d.length c2) := cell_of_row _ _ 0 _ _ _ rr
  have mr1_1 : ((((((w3.setCell ⟨w.heap.size, 0, none⟩ (.slice A2 d.length c2)).setCell ⟨w.heap.size, 1, none⟩ (.int .i64 ps)).setCell ⟨w.heap.size, 2, none⟩ (.bool pp)).setCell ⟨w.heap.size, 3, none⟩ (.int .i64 tk)).setCell ⟨w.heap.size, 4, none⟩ (.bool tp)).setCell ⟨w.heap.size, 5, none⟩ (.int .i64 pd)).cell? ⟨w.heap.size, 1, none⟩ = some (.int .i64 ps) := cell_of_row _ _ 1 _ _ _ rr
  have mr1_2 : ((((((w3.setCell ⟨w.heap.size, 0, none⟩ (.slice A2 d.length c2)).setCell ⟨w.heap.size, 1, none⟩ (.int .i64 ps)).setCell ⟨w.heap.size, 2, none⟩ (.bool pp)).setCell ⟨w.heap.size, 3, none⟩ (.int .i64 tk)).setCell ⟨w.heap.size, 4, none⟩ (.bool tp)).setCell ⟨w.heap.size, 5, none⟩ (.int .i64 pd)).cell? ⟨w.heap.size, 2, none⟩ = some (.bool pp) := cell_of_row _ _ 2 _ _ _ rr
  have mr1_3 : ((((((w3.setCell ⟨w.heap.size, 0, none⟩ (.slice A2 d.length c2)).setCell ⟨w.heap.size, 1, none⟩ (.int .i64 ps)).setCell ⟨w.heap.size, 2, none⟩ (.bool pp)).setCell ⟨w.heap.size, 3, none⟩ (.int .i64 tk)).setCell ⟨w.heap.size, 4, none⟩ (.bool tp)).setCell ⟨w.heap.size, 5, none⟩ (.int .i64 pd)).cell? ⟨w.heap.size, 3, none⟩ = some (.int .i64 tk) := cell_of_row _ _ 3 _ _ _ rr
  have mr1_4 : ((((((w3.setCell ⟨w.heap.size, 0, none⟩ (.slice A2 d.length c2)).setCell ⟨w.heap.size, 1, none⟩ (.int .i64 ps)).setCell ⟨w.heap.size, 2, none⟩ (.bool pp)).setCell ⟨w.heap.size, 3, none⟩ (.int .i64 tk)).setCell ⟨w.heap.size, 4, none⟩ (.bool tp)).setCell ⟨w.heap.size, 5, none⟩ (.int .i64 pd)).cell? ⟨w.heap.size, 4, none⟩ = some (.bool tp) := cell_of_row _ _ 4 _ _ _ rr
  have mr1_5 : ((((((w3.setCell ⟨w.heap.size, 0, none⟩ (.slice A2 d.length c2)).setCell ⟨w.heap.size, 1, none⟩ (.int .i64 ps)).setCell ⟨w.heap.size, 2, none⟩ (.bool pp)).setCell ⟨w.heap.size, 3, none⟩ (.int .i64 tk)).setCell ⟨w.heap.size, 4, none⟩ (.bool tp)).setCell ⟨w.heap.size, 5, none⟩ (.int .i64 pd)).cell? ⟨w.heap.size, 5, none⟩ = some (.int .i64 pd) := cell_of_row _ _ 5 _ _ _ rr
  go_wp2_with fail
  refine bodyPost_ret (v := .agg #[.slice A2 d.length c2, .int .i64 ps, .bool pp, .int .i64 tk, .bool tp, .int .i64 pd]) (by simp only [results, Try.results26]; simp [go_sem, mr1_0, mr1_1, mr1_2, mr1_3, mr1_4, mr1_5]) rfl ?_
  exact ⟨A2, c2, d, ps, pp, tk, tp, pd, rfl, ⟨o2.wide (by omega) (by omega), hd17⟩, hB⟩
set_option maxHeartbeats 4000000 in
theorem drawTakeAnswer_any (A : Option Addr) (n c B : Nat) (bs : List Int) (w : World) (h : Sees w B 1 A n c (byts bs)) (hB0 : B ≤ w.heap.size) (hb : ∀ v ∈ bs, 0 ≤ v ∧ v ≤ 255) :
    Calls Try.prog 27 #[.slice A n c] w (RetSomeAns w) := by
  have hB : Below w.heap.size w w := Below.refl _ _
  have h0 := h
  clear h
  have hle : B ≤ w.heap.size := hB0
  have hn1 := below_new w (.cells #[.slice none 0 0, .int .i64 0, .bool false, .int .i64 0, .bool false, .int .i64 0] 24)
  replace h0 := h0.below hn1 (by omega)
  replace hB := below_later hB hn1 (by omega)
  clear hn1
  have s1 : w.heap.size < (w.alloc (.cells #[.slice none 0 0, .int .i64 0, .bool false, .int .i64 0, .bool false, .int .i64 0] 24)).heap.size := Nat.lt_of_lt_of_eq (Nat.lt_succ_self _) (World.size_alloc _ _).symm
  have rr : (w.alloc (.cells #[.slice none 0 0, .int .i64 0, .bool false, .int .i64 0, .bool false, .int .i64 0] 24)).heap[w.heap.size]? = some (.cells #[.slice none 0 0, .int .i64 0, .bool false, .int .i64 0, .bool false, .int .i64 0] 24 (0, 0)) := by have q := heap_alloc_new w (.cells #[.slice none 0 0, .int .i64 0, .bool false, .int .i64 0, .bool false, .int .i64 0] 24); (try simp only [World.size_alloc, World.size_setCell] at q); exact q
  go_enter Try.func27, Try.ntmps27
  go_wp2_with fail
  generalize (w.alloc (.cells #[.slice none 0 0, .int .i64 0, .bool false, .int .i64 0, .bool false, .int .i64 0] 24)) = u1 at *
  refine (open_any _ _ _ _ _ _ h0 (by omega) hb).mono ?_
  rintro e w2 ⟨rfl, hr, b2, s2⟩
  clear h0 hb
  have t2 : u1.heap.size < w2.heap.size := by omega
  replace rr := rowKeep rr b2
  replace hB := below_later hB b2 (by omega)
  clear b2 s2
  go_wp2_with fail
  refine (answers_any (u1.heap.size) 0 9 _ hr (by omega) (by omega) (by omega)).mono ?_
  rintro e w3 ⟨A2, c2, d, ps, pp, tk, tp, pd, q, rfl, ⟨o2, hd17⟩, hq, hr3, f3⟩
  clear hr
  have hr := hr3
  clear hr3
  have s3 := f3.size
  replace rr := rowFr rr f3 (by omega)
  replace hB := f3.below hB (by omega) (by omega)
  clear f3
  clear hr
  have z4_0 := frzRow rr 0
  have z4_1 := frzRow rr 1
  have z4_2 := frzRow rr 2
  have z4_3 := frzRow rr 3
  have z4_4 := frzRow rr 4
  have z4_5 := frzRow rr 5
  have y4_0 : w3.cell? ⟨w.heap.size, 0, none⟩ = some (.slice none 0 0) := cell_of_row _ _ 0 _ _ _ rr
  have y4_1 : w3.cell? ⟨w.heap.size, 1, none⟩ = some (.int .i64 0) := cell_of_row _ _ 1 _ _ _ rr
  have y4_2 : w3.cell? ⟨w.heap.size, 2, none⟩ = some (.bool false) := cell_of_row _ _ 2 _ _ _ rr
  have y4_3 : w3.cell? ⟨w.heap.size, 3, none⟩ = some (.int .i64 0) := cell_of_row _ _ 3 _ _ _ rr
  have y4_4 : w3.cell? ⟨w.heap.size, 4, none⟩ = some (.bool false) := cell_of_row _ _ 4 _ _ _ rr
  have y4_5 : w3.cell? ⟨w.heap.size, 5, none⟩ = some (.int .i64 0) := cell_of_row _ _ 5 _ _ _ rr
  replace rr := put5 (put4 (put3 (put2 (put1 (put0 (rr) (.slice A2 d.length c2)) (.int .i64 ps)) (.bool pp)) (.int .i64 tk)) (.bool tp)) (.int .i64 pd)
  replace o2 := ((((((o2).setOther ⟨w.heap.size, 0, none⟩ (.slice A2 d.length c2) (by show w.heap.size < _ ∨ _ ≤ w.heap.size; omega)).setOther ⟨w.heap.size, 1, none⟩ (.int .i64 ps) (by show w.heap.size < _ ∨ _ ≤ w.heap.size; omega)).setOther ⟨w.heap.size, 2, none⟩ (.bool pp) (by show w.heap.size < _ ∨ _ ≤ w.heap.size; omega)).setOther ⟨w.heap.size, 3, none⟩ (.int .i64 tk) (by show w.heap.size < _ ∨ _ ≤ w.heap.size; omega)).setOther ⟨w.heap.size, 4, none⟩ (.bool tp) (by show w.heap.size < _ ∨ _ ≤ w.heap.size; omega)).setOther ⟨w.heap.size, 5, none⟩ (.int .i64 pd) (by show w.heap.size < _ ∨ _ ≤ w.heap.size; omega)
  replace hB := ((((((hB).setCell (p := ⟨w.heap.size, 0, none⟩) (by show _ ≤ w.heap.size; omega) (.slice A2 d.length c2)).setCell (p := ⟨w.heap.size, 1, none⟩) (by show _ ≤ w.heap.size; omega) (.int .i64 ps)).setCell (p := ⟨w.heap.size, 2, none⟩) (by show _ ≤ w.heap.size; omega) (.bool pp)).setCell (p := ⟨w.heap.size, 3, none⟩) (by show _ ≤ w.heap.size; omega) (.int .i64 tk)).setCell (p := ⟨w.heap.size, 4, none⟩) (by show _ ≤ w.heap.size; omega) (.bool tp)).setCell (p := ⟨w.heap.size, 5, none⟩) (by show _ ≤ w.heap.size; omega) (.int .i64 pd)
  have s4 : w3.heap.size ≤ ((((((w3.setCell ⟨w.heap.size, 0, none⟩ (.slice A2 d.length c2)).setCell ⟨w.heap.size, 1, none⟩ (.int .i64 ps)).setCell ⟨w.heap.size, 2, none⟩ (.bool pp)).setCell ⟨w.heap.size, 3, none⟩ (.int .i64 tk)).setCell ⟨w.heap.size, 4, none⟩ (.bool tp)).setCell ⟨w.heap.size, 5, none⟩ (.int .i64 pd)).heap.size := by simp only [World.size_setCell]; exact Nat.le_refl _
  have mr1_0 : ((((((w3.setCell ⟨w.heap.size, 0, none⟩ (.slice A2 d.length c2)).setCell ⟨w.heap.size, 1, none⟩ (.int .i64 ps)).setCell ⟨w.heap.size, 2, none⟩ (.bool pp)).setCell ⟨w.heap.size, 3, none⟩ (.int .i64 tk)).setCell ⟨w.heap.size, 4, none⟩ (.bool tp)).setCell ⟨w.heap.size, 5, none⟩ (.int .i64 pd)).cell? ⟨w.heap.size, 0, none⟩ = some (.slice A2 d.length c2) := cell_of_row _ _ 0 _ _ _ rr
  have mr1_1 : ((((((w3.setCell ⟨w.heap.size, 0, none⟩ (.slice A2 d.length c2)).setCell ⟨w.heap.size, 1, none⟩ (.int .i64 ps)).setCell ⟨w.heap.size, 2, none⟩ (.bool pp)).setCell ⟨w.heap.size, 3, none⟩ (.int .i64 tk)).setCell ⟨w.heap.size, 4, none⟩ (.bool tp)).setCell ⟨w.heap.size, 5, none⟩ (.int .i64 pd)).cell? ⟨w.heap.size, 1, none⟩ = some (.int .i64 ps) := cell_of_row _ _ 1 _ _ _ rr
  have mr1_2 : ((((((w3.setCell ⟨w.heap.size, 0, none⟩ (.slice A2 d.length c2)).setCell ⟨w.heap.size, 1, none⟩ (.int .i64 ps)).setCell ⟨w.heap.size, 2, none⟩ (.bool pp)).setCell ⟨w.heap.size, 3, none⟩ (.int .i64 tk)).setCell ⟨w.heap.size, 4, none⟩ (.bool tp)).setCell ⟨w.heap.size, 5, none⟩ (.int .i64 pd)).cell? ⟨w.heap.size, 2, none⟩ = some (.bool pp) := cell_of_row _ _ 2 _ _ _ rr
  have mr1_3 : ((((((w3.setCell ⟨w.heap.size, 0, none⟩ (.slice A2 d.length c2)).setCell ⟨w.heap.size, 1, none⟩ (.int .i64 ps)).setCell ⟨w.heap.size, 2, none⟩ (.bool pp)).setCell ⟨w.heap.size, 3, none⟩ (.int .i64 tk)).setCell ⟨w.heap.size, 4, none⟩ (.bool tp)).setCell ⟨w.heap.size, 5, none⟩ (.int .i64 pd)).cell? ⟨w.heap.size, 3, none⟩ = some (.int .i64 tk) := cell_of_row _ _ 3 _ _ _ rr
  have mr1_4 : ((((((w3.setCell ⟨w.heap.size, 0, none⟩ (.slice A2 d.length c2)).setCell ⟨w.heap.size, 1, none⟩ (.int .i64 ps)).setCell ⟨w.heap.size, 2, none⟩ (.bool pp)).setCell ⟨w.heap.size, 3, none⟩ (.int .i64 tk)).setCell ⟨w.heap.size, 4, none⟩ (.bool tp)).setCell ⟨w.heap.size, 5, none⟩ (.int .i64 pd)).cell? ⟨w.heap.size, 4, none⟩ = some (.bool tp) := cell_of_row _ _ 4 _ _ _ rr
  have mr1_5 : ((((((w3.setCell ⟨w.heap.size, 0, none⟩ (.slice A2 d.length c2)).setCell ⟨w.heap.size, 1, none⟩ (.int .i64 ps)).setCell ⟨w.heap.size, 2, none⟩ (.bool pp)).setCell ⟨w.heap.size, 3, none⟩ (.int .i64 tk)).setCell ⟨w.heap.size, 4, none⟩ (.bool tp)).setCell ⟨w.heap.size, 5, none⟩ (.int .i64 pd)).cell? ⟨w.heap.size, 5, none⟩ = some (.int .i64 pd) := cell_of_row _ _ 5 _ _ _ rr
  go_wp2_with fail
  refine bodyPost_ret (v := .agg #[.slice A2 d.length c2, .int .i64 ps, .bool pp, .int .i64 tk, .bool tp, .int .i64 pd]) (by simp only [results, Try.results27]; simp [go_sem, mr1_0, mr1_1, mr1_2, mr1_3, mr1_4, mr1_5]) rfl ?_
  exact ⟨A2, c2, d, ps, pp, tk, tp, pd, rfl, ⟨o2.wide (by omega) (by omega), hd17⟩, hB⟩
set_option maxHeartbeats 4000000 in
theorem drawPostAnswer_any (A : Option Addr) (n c B : Nat) (bs : List Int) (w : World) (h : Sees w B 1 A n c (byts bs)) (hB0 : B ≤ w.heap.size) (hb : ∀ v ∈ bs, 0 ≤ v ∧ v ≤ 255) :
    Calls Try.prog 30 #[.slice A n c] w (RetAnsInt w) := by
  have hB : Below w.heap.size w w := Below.refl _ _
  have h0 := h
  clear h
  have hle : B ≤ w.heap.size := hB0
  have hn1 := below_new w (.cells #[.slice none 0 0, .int .i64 0, .bool false, .int .i64 0, .bool false, .int .i64 0] 24)
  replace h0 := h0.below hn1 (by omega)
  replace hB := below_later hB hn1 (by omega)
  clear hn1
  have s1 : w.heap.size < (w.alloc (.cells #[.slice none 0 0, .int .i64 0, .bool false, .int .i64 0, .bool false, .int .i64 0] 24)).heap.size := Nat.lt_of_lt_of_eq (Nat.lt_succ_self _) (World.size_alloc _ _).symm
  have rr : (w.alloc (.cells #[.slice none 0 0, .int .i64 0, .bool false, .int .i64 0, .bool false, .int .i64 0] 24)).heap[w.heap.size]? = some (.cells #[.slice none 0 0, .int .i64 0, .bool false, .int .i64 0, .bool false, .int .i64 0] 24 (0, 0)) := by have q := heap_alloc_new w (.cells #[.slice none 0 0, .int .i64 0, .bool false, .int .i64 0, .bool false, .int .i64 0] 24); (try simp only [World.size_alloc, World.size_setCell] at q); exact q
  go_enter Try.func30, Try.ntmps30
  go_wp2_with fail
  generalize (w.alloc (.cells #[.slice none 0 0, .int .i64 0, .bool false, .int .i64 0, .bool false, .int .i64 0] 24)) = u1 at *
  refine (open_any _ _ _ _ _ _ h0 (by omega) hb).mono ?_
  rintro e w2 ⟨rfl, hr, b2, s2⟩
  clear h0 hb
  have t2 : u1.heap.size < w2.heap.size := by omega
  replace rr := rowKeep rr b2
  replace hB := below_later hB b2 (by omega)
  clear b2 s2
  go_wp2_with fail
  refine (answers_any (u1.heap.size) 0 9 _ hr (by omega) (by omega) (by omega)).mono ?_
  rintro e w3 ⟨A2, c2, d, ps, pp, tk, tp, pd, q, rfl, ⟨o2, hd17⟩, hq, hr3, f3⟩
  clear hr
  have hr := hr3
  clear hr3
  have s3 := f3.size
  replace rr := rowFr rr f3 (by omega)
  replace hB := f3.below hB (by omega) (by omega)
  clear f3
  have hn4 := below_new w3 (.cells #[.slice A2 d.length c2, .int .i64 ps, .bool pp, .int .i64 tk, .bool tp, .int .i64 pd] 24)
  replace rr := rowKeep rr hn4
  replace o2 := o2.below hn4
  replace hr := hr.below hn4
  replace hB := below_later hB hn4 (by omega)
  clear hn4
  have s4 : w3.heap.size < (w3.alloc (.cells #[.slice A2 d.length c2, .int .i64 ps, .bool pp, .int .i64 tk, .bool tp, .int .i64 pd] 24)).heap.size := Nat.lt_of_lt_of_eq (Nat.lt_succ_self _) (World.size_alloc _ _).symm
  have rx : (w3.alloc (.cells #[.slice A2 d.length c2, .int .i64 ps, .bool pp, .int .i64 tk, .bool tp, .int .i64 pd] 24)).heap[w3.heap.size]? = some (.cells #[.slice A2 d.length c2, .int .i64 ps, .bool pp, .int .i64 tk, .bool tp, .int .i64 pd] 24 (0, 0)) := by have q := heap_alloc_new w3 (.cells #[.slice A2 d.length c2, .int .i64 ps, .bool pp, .int .i64 tk, .bool tp, .int .i64 pd] 24); (try simp only [World.size_alloc, World.size_setCell] at q); exact q
  have mx1_0 : (w3.alloc (.cells #[.slice A2 d.length c2, .int .i64 ps, .bool pp, .int .i64 tk, .bool tp, .int .i64 pd] 24)).cell? ⟨w3.heap.size, 0, none⟩ = some (.slice A2 d.length c2) := cell_of_row _ _ 0 _ _ _ rx
  have mx1_1 : (w3.alloc (.cells #[.slice A2 d.length c2, .int .i64 ps, .bool pp, .int .i64 tk, .bool tp, .int .i64 pd] 24)).cell? ⟨w3.heap.size, 1, none⟩ = some (.int .i64 ps) := cell_of_row _ _ 1 _ _ _ rx
  have mx1_2 : (w3.alloc (.cells #[.slice A2 d.length c2, .int .i64 ps, .bool pp, .int .i64 tk, .bool tp, .int .i64 pd] 24)).cell? ⟨w3.heap.size, 2, none⟩ = some (.bool pp) := cell_of_row _ _ 2 _ _ _ rx
  have mx1_3 : (w3.alloc (.cells #[.slice A2 d.length c2, .int .i64 ps, .bool pp, .int .i64 tk, .bool tp, .int .i64 pd] 24)).cell? ⟨w3.heap.size, 3, none⟩ = some (.int .i64 tk) := cell_of_row _ _ 3 _ _ _ rx
  have mx1_4 : (w3.alloc (.cells #[.slice A2 d.length c2, .int .i64 ps, .bool pp, .int .i64 tk, .bool tp, .int .i64 pd] 24)).cell? ⟨w3.heap.size, 4, none⟩ = some (.bool tp) := cell_of_row _ _ 4 _ _ _ rx
  have mx1_5 : (w3.alloc (.cells #[.slice A2 d.length c2, .int .i64 ps, .bool pp, .int .i64 tk, .bool tp, .int .i64 pd] 24)).cell? ⟨w3.heap.size, 5, none⟩ = some (.int .i64 pd) := cell_of_row _ _ 5 _ _ _ rx
  go_wp2_with fail
  generalize (w3.alloc (.cells #[.slice A2 d.length c2, .int .i64 ps, .bool pp, .int .i64 tk, .bool tp, .int .i64 pd] 24)) = u4 at *
  have hn5 : Below u4.heap.size u4 u4.drew := below_drewN (Below.refl _ _) 1
  have s5 : u4.heap.size ≤ u4.drew.heap.size := Nat.le_refl _
  clear mx1_0 mx1_1 mx1_2 mx1_3 mx1_4 mx1_5
  replace rr := rowKeep rr hn5
  replace rx := rowKeep rx hn5
  replace o2 := o2.below hn5
  replace hr := hr.below hn5
  replace hB := below_later hB hn5 (by omega)
  have mx2_0 : u4.drew.cell? ⟨w3.heap.size, 0, none⟩ = some (.slice A2 d.length c2) := cell_of_row _ _ 0 _ _ _ rx
  have mx2_1 : u4.drew.cell? ⟨w3.heap.size, 1, none⟩ = some (.int .i64 ps) := cell_of_row _ _ 1 _ _ _ rx
  have mx2_2 : u4.drew.cell? ⟨w3.heap.size, 2, none⟩ = some (.bool pp) := cell_of_row _ _ 2 _ _ _ rx
  have mx2_3 : u4.drew.cell? ⟨w3.heap.size, 3, none⟩ = some (.int .i64 tk) := cell_of_row _ _ 3 _ _ _ rx
  have mx2_4 : u4.drew.cell? ⟨w3.heap.size, 4, none⟩ = some (.bool tp) := cell_of_row _ _ 4 _ _ _ rx
  have mx2_5 : u4.drew.cell? ⟨w3.heap.size, 5, none⟩ = some (.int .i64 pd) := cell_of_row _ _ 5 _ _ _ rx
  clear hn5
  refine wp_region_noPanic ?_
  refine wp_region_held_drew (S := fun w' => w'.cell? ⟨w3.heap.size, 0, none⟩ = some (.slice A2 d.length c2) ∧ w'.cell? ⟨w3.heap.size, 1, none⟩ = some (.int .i64 ps) ∧ w'.cell? ⟨w3.heap.size, 2, none⟩ = some (.bool pp) ∧ w'.cell? ⟨w3.heap.size, 3, none⟩ = some (.int .i64 tk) ∧ w'.cell? ⟨w3.heap.size, 4, none⟩ = some (.bool tp) ∧ w'.cell? ⟨w3.heap.size, 5, none⟩ = some (.int .i64 pd)) (by kernel_rfl) ⟨mx2_0, mx2_1, mx2_2, mx2_3, mx2_4, mx2_5⟩ (fun hHeld => ?_)
  generalize u4.drew = u5 at *
  refine wpAnyH_take (i := 0) (v := ?_) rfl (by kernel_rfl) (by kernel_rfl) (by kernel_rfl) (fun _ _ _ h => h) (Or.inl ⟨by rfl, ?_⟩) (by assumption) ?_
  rotate_left
  · (intro wz hSw; (try dsimp only at hSw); go_simp; try with_reducible rfl)
  simp only [Act.put, List.getElem_toArray, List.getElem_cons_zero, List.getElem_cons_succ, List.setIfInBounds_toArray, List.set_cons_zero, List.set_cons_succ]
  refine wpAnyH_take (i := 1) (v := ?_) rfl (by kernel_rfl) (by kernel_rfl) (by kernel_rfl) (fun _ _ _ h => h) (Or.inl ⟨by rfl, ?_⟩) (by assumption) ?_
  rotate_left
  · (intro wz hSw; (try dsimp only at hSw); go_simp; try with_reducible rfl)
  simp only [Act.put, List.getElem_toArray, List.getElem_cons_zero, List.getElem_cons_succ, List.setIfInBounds_toArray, List.set_cons_zero, List.set_cons_succ]
  refine wpAnyH_ready (rs := [2]) (by kernel_rfl) (by simp) ?_
  refine AllReadyH.cons rfl (fun K hK => ?_) ?_
  · go_simp
    refine (pick_any (u1.heap.size) (q) (100) _ hr (by omega)).mono ?_
    rintro e w6 ⟨v, rfl, h6, q6, f6, e6⟩
    have s6 := f6.size
    clear hr
    have hr := q6
    clear q6
    clear mx2_0 mx2_1 mx2_2 mx2_3 mx2_4 mx2_5
    replace rr := rowFr rr f6 (by omega)
    replace rx := rowFr rx f6 (by omega)
    replace o2 := o2.fr f6 (by omega)
    replace hB := f6.below hB (by omega) (by omega)
    have mx3_0 : w6.cell? ⟨w3.heap.size, 0, none⟩ = some (.slice A2 d.length c2) := cell_of_row _ _ 0 _ _ _ rx
    have mx3_1 : w6.cell? ⟨w3.heap.size, 1, none⟩ = some (.int .i64 ps) := cell_of_row _ _ 1 _ _ _ rx
    have mx3_2 : w6.cell? ⟨w3.heap.size, 2, none⟩ = some (.bool pp) := cell_of_row _ _ 2 _ _ _ rx
    have mx3_3 : w6.cell? ⟨w3.heap.size, 3, none⟩ = some (.int .i64 tk) := cell_of_row _ _ 3 _ _ _ rx
    have mx3_4 : w6.cell? ⟨w3.heap.size, 4, none⟩ = some (.bool tp) := cell_of_row _ _ 4 _ _ _ rx
    have mx3_5 : w6.cell? ⟨w3.heap.size, 5, none⟩ = some (.int .i64 pd) := cell_of_row _ _ 5 _ _ _ rx
    clear f6
    obtain ⟨v0, v1⟩ : 0 ≤ v ∧ v < 100 := by omega
    clear h6 e6
    refine hK.out _ _ ⟨mx3_0, mx3_1, mx3_2, mx3_3, mx3_4, mx3_5⟩ (fun hHeld => ?_)
    clear hK K
    try simp only [Act.put, List.getElem_toArray, List.getElem_cons_zero, List.getElem_cons_succ, List.setIfInBounds_toArray, List.set_cons_zero, List.set_cons_succ]
    refine wpAnyH_ready (rs := [3]) (by kernel_rfl) (by simp) ?_
    refine AllReadyH.cons rfl (fun K hK => ?_) ?_
    · have z7_0 := frzRow rr 0
      have z7_1 := frzRow rr 1
      have z7_2 := frzRow rr 2
      have z7_3 := frzRow rr 3
      have z7_4 := frzRow rr 4
      have z7_5 := frzRow rr 5
      have y7_0 : w6.cell? ⟨w.heap.size, 0, none⟩ = some (.slice none 0 0) := cell_of_row _ _ 0 _ _ _ rr
      have y7_1 : w6.cell? ⟨w.heap.size, 1, none⟩ = some (.int .i64 0) := cell_of_row _ _ 1 _ _ _ rr
      have y7_2 : w6.cell? ⟨w.heap.size, 2, none⟩ = some (.bool false) := cell_of_row _ _ 2 _ _ _ rr
      have y7_3 : w6.cell? ⟨w.heap.size, 3, none⟩ = some (.int .i64 0) := cell_of_row _ _ 3 _ _ _ rr
      have y7_4 : w6.cell? ⟨w.heap.size, 4, none⟩ = some (.bool false) := cell_of_row _ _ 4 _ _ _ rr
      have y7_5 : w6.cell? ⟨w.heap.size, 5, none⟩ = some (.int .i64 0) := cell_of_row _ _ 5 _ _ _ rr
      replace rx := rowSet (rowSet (rowSet (rowSet (rowSet (rowSet (rx) ⟨w.heap.size, 0, none⟩ (.slice A2 d.length c2) (by show _ ≠ w.heap.size; omega)) ⟨w.heap.size, 1, none⟩ (.int .i64 ps) (by show _ ≠ w.heap.size; omega)) ⟨w.heap.size, 2, none⟩ (.bool pp) (by show _ ≠ w.heap.size; omega)) ⟨w.heap.size, 3, none⟩ (.int .i64 tk) (by show _ ≠ w.heap.size; omega)) ⟨w.heap.size, 4, none⟩ (.bool tp) (by show _ ≠ w.heap.size; omega)) ⟨w.heap.size, 5, none⟩ (.int .i64 pd) (by show _ ≠ w.heap.size; omega)
      replace rr := put5 (put4 (put3 (put2 (put1 (put0 (rr) (.slice A2 d.length c2)) (.int .i64 ps)) (.bool pp)) (.int .i64 tk)) (.bool tp)) (.int .i64 pd)
      replace o2 := ((((((o2).setOther ⟨w.heap.size, 0, none⟩ (.slice A2 d.length c2) (by show w.heap.size < _ ∨ _ ≤ w.heap.size; omega)).setOther ⟨w.heap.size, 1, none⟩ (.int .i64 ps) (by show w.heap.size < _ ∨ _ ≤ w.heap.size; omega)).setOther ⟨w.heap.size, 2, none⟩ (.bool pp) (by show w.heap.size < _ ∨ _ ≤ w.heap.size; omega)).setOther ⟨w.heap.size, 3, none⟩ (.int .i64 tk) (by show w.heap.size < _ ∨ _ ≤ w.heap.size; omega)).setOther ⟨w.heap.size, 4, none⟩ (.bool tp) (by show w.heap.size < _ ∨ _ ≤ w.heap.size; omega)).setOther ⟨w.heap.size, 5, none⟩ (.int .i64 pd) (by show w.heap.size < _ ∨ _ ≤ w.heap.size; omega)
      clear hr
      replace hB := ((((((hB).setCell (p := ⟨w.heap.size, 0, none⟩) (by show _ ≤ w.heap.size; omega) (.slice A2 d.length c2)).setCell (p := ⟨w.heap.size, 1, none⟩) (by show _ ≤ w.heap.size; omega) (.int .i64 ps)).setCell (p := ⟨w.heap.size, 2, none⟩) (by show _ ≤ w.heap.size; omega) (.bool pp)).setCell (p := ⟨w.heap.size, 3, none⟩) (by show _ ≤ w.heap.size; omega) (.int .i64 tk)).setCell (p := ⟨w.heap.size, 4, none⟩) (by show _ ≤ w.heap.size; omega) (.bool tp)).setCell (p := ⟨w.heap.size, 5, none⟩) (by show _ ≤ w.heap.size; omega) (.int .i64 pd)
      have s7 : w6.heap.size ≤ ((((((w6.setCell ⟨w.heap.size, 0, none⟩ (.slice A2 d.length c2)).setCell ⟨w.heap.size, 1, none⟩ (.int .i64 ps)).setCell ⟨w.heap.size, 2, none⟩ (.bool pp)).setCell ⟨w.heap.size, 3, none⟩ (.int .i64 tk)).setCell ⟨w.heap.size, 4, none⟩ (.bool tp)).setCell ⟨w.heap.size, 5, none⟩ (.int .i64 pd)).heap.size := by simp only [World.size_setCell]; exact Nat.le_refl _
      have mx4_0 : ((((((w6.setCell ⟨w.heap.size, 0, none⟩ (.slice A2 d.length c2)).setCell ⟨w.heap.size, 1, none⟩ (.int .i64 ps)).setCell ⟨w.heap.size, 2, none⟩ (.bool pp)).setCell ⟨w.heap.size, 3, none⟩ (.int .i64 tk)).setCell ⟨w.heap.size, 4, none⟩ (.bool tp)).setCell ⟨w.heap.size, 5, none⟩ (.int .i64 pd)).cell? ⟨w3.heap.size, 0, none⟩ = some (.slice A2 d.length c2) := cell_of_row _ _ 0 _ _ _ rx
      have mx4_1 : ((((((w6.setCell ⟨w.heap.size, 0, none⟩ (.slice A2 d.length c2)).setCell ⟨w.heap.size, 1, none⟩ (.int .i64 ps)).setCell ⟨w.heap.size, 2, none⟩ (.bool pp)).setCell ⟨w.heap.size, 3, none⟩ (.int .i64 tk)).setCell ⟨w.heap.size, 4, none⟩ (.bool tp)).setCell ⟨w.heap.size, 5, none⟩ (.int .i64 pd)).cell? ⟨w3.heap.size, 1, none⟩ = some (.int .i64 ps) := cell_of_row _ _ 1 _ _ _ rx
      have mx4_2 : ((((((w6.setCell ⟨w.heap.size, 0, none⟩ (.slice A2 d.length c2)).setCell ⟨w.heap.size, 1, none⟩ (.int .i64 ps)).setCell ⟨w.heap.size, 2, none⟩ (.bool pp)).setCell ⟨w.heap.size, 3, none⟩ (.int .i64 tk)).setCell ⟨w.heap.size, 4, none⟩ (.bool tp)).setCell ⟨w.heap.size, 5, none⟩ (.int .i64 pd)).cell? ⟨w3.heap.size, 2, none⟩ = some (.bool pp) := cell_of_row _ _ 2 _ _ _ rx
      have mx4_3 : ((((((w6.setCell ⟨w.heap.size, 0, none⟩ (.slice A2 d.length c2)).setCell ⟨w.heap.size, 1, none⟩ (.int .i64 ps)).setCell ⟨w.heap.size, 2, none⟩ (.bool pp)).setCell ⟨w.heap.size, 3, none⟩ (.int .i64 tk)).setCell ⟨w.heap.size, 4, none⟩ (.bool tp)).setCell ⟨w.heap.size, 5, none⟩ (.int .i64 pd)).cell? ⟨w3.heap.size, 3, none⟩ = some (.int .i64 tk) := cell_of_row _ _ 3 _ _ _ rx
      have mx4_4 : ((((((w6.setCell ⟨w.heap.size, 0, none⟩ (.slice A2 d.length c2)).setCell ⟨w.heap.size, 1, none⟩ (.int .i64 ps)).setCell ⟨w.heap.size, 2, none⟩ (.bool pp)).setCell ⟨w.heap.size, 3, none⟩ (.int .i64 tk)).setCell ⟨w.heap.size, 4, none⟩ (.bool tp)).setCell ⟨w.heap.size, 5, none⟩ (.int .i64 pd)).cell? ⟨w3.heap.size, 4, none⟩ = some (.bool tp) := cell_of_row _ _ 4 _ _ _ rx
      have mx4_5 : ((((((w6.setCell ⟨w.heap.size, 0, none⟩ (.slice A2 d.length c2)).setCell ⟨w.heap.size, 1, none⟩ (.int .i64 ps)).setCell ⟨w.heap.size, 2, none⟩ (.bool pp)).setCell ⟨w.heap.size, 3, none⟩ (.int .i64 tk)).setCell ⟨w.heap.size, 4, none⟩ (.bool tp)).setCell ⟨w.heap.size, 5, none⟩ (.int .i64 pd)).cell? ⟨w3.heap.size, 5, none⟩ = some (.int .i64 pd) := cell_of_row _ _ 5 _ _ _ rx
      go_simp
      refine hK.out _ _ ⟨mx4_0, mx4_1, mx4_2, mx4_3, mx4_4, mx4_5⟩ (fun hHeld => ?_)
      clear z7_0 z7_1 z7_2 z7_3 z7_4 z7_5 y7_0 y7_1 y7_2 y7_3 y7_4 y7_5 mx3_0 mx3_1 mx3_2 mx3_3 mx3_4 mx3_5
      generalize ((((((w6.setCell ⟨w.heap.size, 0, none⟩ (.slice A2 d.length c2)).setCell ⟨w.heap.size, 1, none⟩ (.int .i64 ps)).setCell ⟨w.heap.size, 2, none⟩ (.bool pp)).setCell ⟨w.heap.size, 3, none⟩ (.int .i64 tk)).setCell ⟨w.heap.size, 4, none⟩ (.bool tp)).setCell ⟨w.heap.size, 5, none⟩ (.int .i64 pd)) = u7 at *
      clear hK K
      try simp only [Act.put, List.getElem_toArray, List.getElem_cons_zero, List.getElem_cons_succ, List.setIfInBounds_toArray, List.set_cons_zero, List.set_cons_succ]
      refine wpAnyH_take (i := 4) (v := ?_) rfl (by kernel_rfl) (by kernel_rfl) (by kernel_rfl) (fun _ _ _ h => h) (Or.inl ⟨by rfl, ?_⟩) (by assumption) ?_
      rotate_left
      · (intro wz hSw; (try dsimp only at hSw); go_simp; try with_reducible rfl)
      simp only [Act.put, List.getElem_toArray, List.getElem_cons_zero, List.getElem_cons_succ, List.setIfInBounds_toArray, List.set_cons_zero, List.set_cons_succ]
      refine wpAnyH_done (by kernel_rfl) ?_ _
      refine NoPanic.normal ?_
      have mr1_0 : u7.cell? ⟨w.heap.size, 0, none⟩ = some (.slice A2 d.length c2) := cell_of_row _ _ 0 _ _ _ rr
      have mr1_1 : u7.cell? ⟨w.heap.size, 1, none⟩ = some (.int .i64 ps) := cell_of_row _ _ 1 _ _ _ rr
      have mr1_2 : u7.cell? ⟨w.heap.size, 2, none⟩ = some (.bool pp) := cell_of_row _ _ 2 _ _ _ rr
      have mr1_3 : u7.cell? ⟨w.heap.size, 3, none⟩ = some (.int .i64 tk) := cell_of_row _ _ 3 _ _ _ rr
      have mr1_4 : u7.cell? ⟨w.heap.size, 4, none⟩ = some (.bool tp) := cell_of_row _ _ 4 _ _ _ rr
      have mr1_5 : u7.cell? ⟨w.heap.size, 5, none⟩ = some (.int .i64 pd) := cell_of_row _ _ 5 _ _ _ rr
      go_wp2_with fail
      refine bodyPost_ret (v := .tuple #[.agg #[.slice A2 d.length c2, .int .i64 ps, .bool pp, .int .i64 tk, .bool tp, .int .i64 pd], .int .i64 v]) (by simp only [results, Try.results30]; simp [go_sem, mr1_0, mr1_1, mr1_2, mr1_3, mr1_4, mr1_5]) rfl ?_
      exact ⟨A2, c2, d, ps, pp, tk, tp, pd, v, rfl, ⟨o2.wide (by omega) (by omega), hd17⟩, ⟨v0, v1⟩, hB⟩
    exact AllReadyH.nil
  exact AllReadyH.nil
end Go.Proofs.Ythkiollagnjfaaa
