/-
  Walk: the law FnCommandWord returns true.
-/
import Derived.Test.YtiibnkcdeldiaaaC9
import Derived.Test.YtiibnkcdeldiaaaS3
import Derived.Test.YtiibnkcdeldiaaaA
namespace Go.Proofs.Ytiibnkcdeldiaaa
open Go.RowKit
set_option linter.unusedSimpArgs false
set_option linter.unusedVariables false
set_option maxHeartbeats 4000000 in
theorem law_FnCommandWord (w : World) (A : Option Addr) (n c : Nat) (bs : List Int) (h : Sees w w.heap.size 1 A n c (byts bs)) (hb : ∀ v ∈ bs, 0 ≤ v ∧ v ≤ 255) (A' : Option Addr) (n' c' : Nat) (bs' : List Int) (h' : Sees w w.heap.size 1 A' n' c' (byts bs')) (hb' : ∀ v ∈ bs', 0 ≤ v ∧ v ≤ 255) :
    Calls Try.prog 4 #[.slice A n c, .slice A' n' c'] w (RetPure w (.bool true)) := by
  have hc1 := h.cap
  have hc2 := h.big
  have hc3 := h'.cap
  have hc4 := h'.big
  by_cases hn : 1048576 < n
  · go_enter Try.func4, Try.ntmps4
    go_wp2_with fail
    go_ret
    exact ⟨rfl, Below.refl _ _⟩
  by_cases hn' : 1048576 < n'
  · go_enter Try.func4, Try.ntmps4
    go_wp2_with fail
    go_ret
    exact ⟨rfl, Below.refl _ _⟩
  have hB : Below w.heap.size w w := Below.refl _ _
  go_enter Try.func4, Try.ntmps4
  go_wp2_with fail
  refine (drawCommandWord_any _ _ _ _ _ _ h (Nat.le_refl _) hb).mono ?_
  rintro e w1 ⟨k, a, cc, v, rfl, hbd, b1⟩
  have s1 := b1.size
  replace h' := h'.below b1 hB.size
  replace hB := below_later hB b1 (Nat.le_refl _)
  clear b1
  clear h hb
  have hn2 := below_new w1 (.cells #[.int .i64 k, .int .i64 a, .int .i64 cc, .int .i64 v] 24)
  replace h' := h'.below hn2 hB.size
  replace hB := below_later hB hn2 (Nat.le_refl _)
  clear hn2
  have rx : (w1.alloc (.cells #[.int .i64 k, .int .i64 a, .int .i64 cc, .int .i64 v] 24)).heap[w1.heap.size]? = some (.cells #[.int .i64 k, .int .i64 a, .int .i64 cc, .int .i64 v] 24 (0, 0)) := heap_alloc_new _ _
  obtain ⟨mx0, mx1, mx2, mx3⟩ := cells4 rx
  have s2 : w1.heap.size < (w1.alloc (.cells #[.int .i64 k, .int .i64 a, .int .i64 cc, .int .i64 v] 24)).heap.size := by rw [World.size_alloc]; exact Nat.lt_succ_self _
  go_wp2_with fail
  generalize (w1.alloc (.cells #[.int .i64 k, .int .i64 a, .int .i64 cc, .int .i64 v] 24)) = u2 at *
  refine (drawCommandWord_any _ _ _ _ _ _ h' hB.size hb').mono ?_
  rintro e w3 ⟨k', a', cc', v', rfl, hbd', b3⟩
  have s3 := b3.size
  replace h' := h'.below b3 hB.size
  replace rx := rowKeep rx b3
  clear mx0 mx1 mx2 mx3
  obtain ⟨mx0, mx1, mx2, mx3⟩ := cells4 rx
  replace hB := below_later hB b3 (Nat.le_refl _)
  clear b3
  clear h' hb'
  have hn4 := below_new w3 (.cells #[.int .i64 k', .int .i64 a', .int .i64 cc', .int .i64 v'] 24)
  replace rx := rowKeep rx hn4
  clear mx0 mx1 mx2 mx3
  obtain ⟨mx0, mx1, mx2, mx3⟩ := cells4 rx
  replace hB := below_later hB hn4 (Nat.le_refl _)
  clear hn4
  have ry : (w3.alloc (.cells #[.int .i64 k', .int .i64 a', .int .i64 cc', .int .i64 v'] 24)).heap[w3.heap.size]? = some (.cells #[.int .i64 k', .int .i64 a', .int .i64 cc', .int .i64 v'] 24 (0, 0)) := heap_alloc_new _ _
  obtain ⟨my0, my1, my2, my3⟩ := cells4 ry
  have s4 : w3.heap.size < (w3.alloc (.cells #[.int .i64 k', .int .i64 a', .int .i64 cc', .int .i64 v'] 24)).heap.size := by rw [World.size_alloc]; exact Nat.lt_succ_self _
  cases hv : cval ⟨k, a, cc, v⟩ 64
  · have HW := Lib.hid (cword_no _ hv)
    clear hv
    go_wp2_with fail
    generalize (w3.alloc (.cells #[.int .i64 k', .int .i64 a', .int .i64 cc', .int .i64 v'] 24)) = u4 at *
    have q := implCommandWord_any ⟨k, a, cc, v⟩ u4
    rw [HW.out] at q
    try simp only [cmdV] at q
    refine q.mono ?_
    clear q
    rintro e w5 ⟨rfl, b5⟩
    have s5 := b5.size
    replace rx := rowKeep rx b5
    clear mx0 mx1 mx2 mx3
    obtain ⟨mx0, mx1, mx2, mx3⟩ := cells4 rx
    replace ry := rowKeep ry b5
    clear my0 my1 my2 my3
    obtain ⟨my0, my1, my2, my3⟩ := cells4 ry
    replace hB := below_later hB b5 (Nat.le_refl _)
    clear b5
    go_wp2_with fail
    have q := specCommandWord_any ⟨k, a, cc, v⟩ w5
    rw [HW.out] at q
    try simp only [cmdV] at q
    refine q.mono ?_
    clear q
    rintro e w6 ⟨rfl, b6⟩
    have s6 := b6.size
    replace rx := rowKeep rx b6
    clear mx0 mx1 mx2 mx3
    obtain ⟨mx0, mx1, mx2, mx3⟩ := cells4 rx
    replace ry := rowKeep ry b6
    clear my0 my1 my2 my3
    obtain ⟨my0, my1, my2, my3⟩ := cells4 ry
    replace hB := below_later hB b6 (Nat.le_refl _)
    clear b6
    go_wp2_with fail
    refine (alive_any _).mono ?_
    rintro e w7 ⟨rfl, b7⟩
    have s7 := b7.size
    replace rx := rowKeep rx b7
    clear mx0 mx1 mx2 mx3
    obtain ⟨mx0, mx1, mx2, mx3⟩ := cells4 rx
    replace ry := rowKeep ry b7
    clear my0 my1 my2 my3
    obtain ⟨my0, my1, my2, my3⟩ := cells4 ry
    replace hB := below_later hB b7 (Nat.le_refl _)
    clear b7
    go_wp2_with fail
    go_ret
    exact ⟨rfl, hB⟩
  · have hbw := wordOf_bd _ hv
    have hrd : rdok (wordOf ⟨k, a, cc, v⟩) = true := by unfold rdok; rw [rcmd_word _ hv, hv, Bool.and_true]; exact decide_eq_true (by omega)
    have HZ := Lib.hid (show (if rdok (wordOf ⟨k, a, cc, v⟩) = true then rcmd (wordOf ⟨k, a, cc, v⟩) else ⟨0, 0, 0, 0⟩ : Cmd) = ⟨k, a, cc, v⟩ by rw [if_pos hrd, rcmd_word _ hv])
    have HR := Lib.hid hrd
    have HI := Lib.hid (cword_inj ⟨k, a, cc, v⟩ ⟨k', a', cc', v'⟩ hv)
    have HW := Lib.hid (cword_of _ hv)
    rw [HW.out] at HI
    clear hv hrd
    generalize wordOf ⟨k, a, cc, v⟩ = m at *
    go_wp2_with fail
    generalize (w3.alloc (.cells #[.int .i64 k', .int .i64 a', .int .i64 cc', .int .i64 v'] 24)) = u4 at *
    have q := implCommandWord_any ⟨k, a, cc, v⟩ u4
    rw [HW.out] at q
    try simp only [cmdV] at q
    refine q.mono ?_
    clear q
    rintro e w5 ⟨rfl, b5⟩
    have s5 := b5.size
    replace rx := rowKeep rx b5
    clear mx0 mx1 mx2 mx3
    obtain ⟨mx0, mx1, mx2, mx3⟩ := cells4 rx
    replace ry := rowKeep ry b5
    clear my0 my1 my2 my3
    obtain ⟨my0, my1, my2, my3⟩ := cells4 ry
    replace hB := below_later hB b5 (Nat.le_refl _)
    clear b5
    go_wp2_with fail
    have q := specCommandWord_any ⟨k, a, cc, v⟩ w5
    rw [HW.out] at q
    try simp only [cmdV] at q
    refine q.mono ?_
    clear q
    rintro e w6 ⟨rfl, b6⟩
    have s6 := b6.size
    replace rx := rowKeep rx b6
    clear mx0 mx1 mx2 mx3
    obtain ⟨mx0, mx1, mx2, mx3⟩ := cells4 rx
    replace ry := rowKeep ry b6
    clear my0 my1 my2 my3
    obtain ⟨my0, my1, my2, my3⟩ := cells4 ry
    replace hB := below_later hB b6 (Nat.le_refl _)
    clear b6
    go_wp2_with fail
    have q := implReadCommand_any m w6 (by omega)
    rw [HZ.out, HR.out] at q
    try simp only [cmdV] at q
    refine q.mono ?_
    clear q
    rintro e w7 ⟨rfl, b7⟩
    have s7 := b7.size
    replace rx := rowKeep rx b7
    clear mx0 mx1 mx2 mx3
    obtain ⟨mx0, mx1, mx2, mx3⟩ := cells4 rx
    replace ry := rowKeep ry b7
    clear my0 my1 my2 my3
    obtain ⟨my0, my1, my2, my3⟩ := cells4 ry
    replace hB := below_later hB b7 (Nat.le_refl _)
    clear b7
    have hn8 := below_new w7 (.cells #[.int .i64 k, .int .i64 a, .int .i64 cc, .int .i64 v] 24)
    replace rx := rowKeep rx hn8
    clear mx0 mx1 mx2 mx3
    obtain ⟨mx0, mx1, mx2, mx3⟩ := cells4 rx
    replace ry := rowKeep ry hn8
    clear my0 my1 my2 my3
    obtain ⟨my0, my1, my2, my3⟩ := cells4 ry
    replace hB := below_later hB hn8 (Nat.le_refl _)
    clear hn8
    have rz : (w7.alloc (.cells #[.int .i64 k, .int .i64 a, .int .i64 cc, .int .i64 v] 24)).heap[w7.heap.size]? = some (.cells #[.int .i64 k, .int .i64 a, .int .i64 cc, .int .i64 v] 24 (0, 0)) := heap_alloc_new _ _
    obtain ⟨mz0, mz1, mz2, mz3⟩ := cells4 rz
    have s8 : w7.heap.size < (w7.alloc (.cells #[.int .i64 k, .int .i64 a, .int .i64 cc, .int .i64 v] 24)).heap.size := by rw [World.size_alloc]; exact Nat.lt_succ_self _
    go_wp2_with fail
    generalize (w7.alloc (.cells #[.int .i64 k, .int .i64 a, .int .i64 cc, .int .i64 v] 24)) = u8 at *
    by_cases e0 : k = k'
    · by_cases e1 : a = a'
      · by_cases e2 : cc = cc'
        · by_cases e3 : v = v'
          · subst e0 e1 e2 e3
            have HX := Lib.hid (HI.out.2 rfl)
            clear HI
            go_wp2_with fail
            have hn9 : Below u8.heap.size u8 u8.drew := below_drewN (Below.refl _ _) 1
            have s9 : u8.heap.size ≤ u8.drew.heap.size := Nat.le_refl _
            replace rx := rowKeep rx hn9
            clear mx0 mx1 mx2 mx3
            obtain ⟨mx0, mx1, mx2, mx3⟩ := cells4 rx
            replace ry := rowKeep ry hn9
            clear my0 my1 my2 my3
            obtain ⟨my0, my1, my2, my3⟩ := cells4 ry
            replace rz := rowKeep rz hn9
            clear mz0 mz1 mz2 mz3
            obtain ⟨mz0, mz1, mz2, mz3⟩ := cells4 rz
            replace hB := below_later hB hn9 (Nat.le_refl _)
            clear hn9
            refine wp_region_noPanic ?_
            refine wp_region_held_drew (S := fun w' => w'.cell? ⟨w1.heap.size, 0, none⟩ = some (.int .i64 k) ∧ w'.cell? ⟨w1.heap.size, 1, none⟩ = some (.int .i64 a) ∧ w'.cell? ⟨w1.heap.size, 2, none⟩ = some (.int .i64 cc) ∧ w'.cell? ⟨w1.heap.size, 3, none⟩ = some (.int .i64 v) ∧ w'.cell? ⟨w3.heap.size, 0, none⟩ = some (.int .i64 k) ∧ w'.cell? ⟨w3.heap.size, 1, none⟩ = some (.int .i64 a) ∧ w'.cell? ⟨w3.heap.size, 2, none⟩ = some (.int .i64 cc) ∧ w'.cell? ⟨w3.heap.size, 3, none⟩ = some (.int .i64 v) ∧ w'.cell? ⟨w7.heap.size, 0, none⟩ = some (.int .i64 k) ∧ w'.cell? ⟨w7.heap.size, 1, none⟩ = some (.int .i64 a) ∧ w'.cell? ⟨w7.heap.size, 2, none⟩ = some (.int .i64 cc) ∧ w'.cell? ⟨w7.heap.size, 3, none⟩ = some (.int .i64 v)) (by kernel_rfl) ⟨mx0, mx1, mx2, mx3, my0, my1, my2, my3, mz0, mz1, mz2, mz3⟩ (fun hHeld => ?_)
            generalize u8.drew = u9 at *
            refine wpAnyH_take (i := 0) (v := ?_) rfl (by kernel_rfl) (by kernel_rfl) (by kernel_rfl) (fun _ _ _ h => h) (Or.inl ⟨by rfl, ?_⟩) (by assumption) ?_
            rotate_left
            · (intro wz hSw; (try dsimp only at hSw); go_simp; try with_reducible rfl)
            simp only [Act.put, List.getElem_toArray, List.getElem_cons_zero, List.getElem_cons_succ, List.setIfInBounds_toArray, List.set_cons_zero, List.set_cons_succ]
            refine wpAnyH_take (i := 1) (v := ?_) rfl (by kernel_rfl) (by kernel_rfl) (by kernel_rfl) (fun _ _ _ h => h) (Or.inl ⟨by rfl, ?_⟩) (by assumption) ?_
            rotate_left
            · (intro wz hSw; (try dsimp only at hSw); go_simp; try with_reducible rfl)
            simp only [Act.put, List.getElem_toArray, List.getElem_cons_zero, List.getElem_cons_succ, List.setIfInBounds_toArray, List.set_cons_zero, List.set_cons_succ]
            refine wpAnyH_take (i := 2) (v := ?_) rfl (by kernel_rfl) (by kernel_rfl) (by kernel_rfl) (fun _ _ _ h => h) (Or.inl ⟨by rfl, ?_⟩) (by assumption) ?_
            rotate_left
            · (intro wz hSw; (try dsimp only at hSw); go_simp; try with_reducible rfl)
            simp only [Act.put, List.getElem_toArray, List.getElem_cons_zero, List.getElem_cons_succ, List.setIfInBounds_toArray, List.set_cons_zero, List.set_cons_succ]
            refine wpAnyH_take (i := 3) (v := ?_) rfl (by kernel_rfl) (by kernel_rfl) (by kernel_rfl) (fun _ _ _ h => h) (Or.inl ⟨by rfl, ?_⟩) (by assumption) ?_
            rotate_left
            · (intro wz hSw; (try dsimp only at hSw); go_simp; try with_reducible rfl)
            simp only [Act.put, List.getElem_toArray, List.getElem_cons_zero, List.getElem_cons_succ, List.setIfInBounds_toArray, List.set_cons_zero, List.set_cons_succ]
            refine wpAnyH_take (i := 4) (v := ?_) rfl (by kernel_rfl) (by kernel_rfl) (by kernel_rfl) (fun _ _ _ h => h) (Or.inl ⟨by rfl, ?_⟩) (by assumption) ?_
            rotate_left
            · (intro wz hSw; (try dsimp only at hSw); go_simp; try with_reducible rfl)
            simp only [Act.put, List.getElem_toArray, List.getElem_cons_zero, List.getElem_cons_succ, List.setIfInBounds_toArray, List.set_cons_zero, List.set_cons_succ]
            refine wpAnyH_take (i := 5) (v := ?_) rfl (by kernel_rfl) (by kernel_rfl) (by kernel_rfl) (fun _ _ _ h => h) (Or.inl ⟨by rfl, ?_⟩) (by assumption) ?_
            rotate_left
            · (intro wz hSw; (try dsimp only at hSw); go_simp; try with_reducible rfl)
            simp only [Act.put, List.getElem_toArray, List.getElem_cons_zero, List.getElem_cons_succ, List.setIfInBounds_toArray, List.set_cons_zero, List.set_cons_succ]
            refine wpAnyH_take (i := 6) (v := ?_) rfl (by kernel_rfl) (by kernel_rfl) (by kernel_rfl) (fun _ _ _ h => h) (Or.inl ⟨by rfl, ?_⟩) (by assumption) ?_
            rotate_left
            · (intro wz hSw; (try dsimp only at hSw); go_simp; try with_reducible rfl)
            simp only [Act.put, List.getElem_toArray, List.getElem_cons_zero, List.getElem_cons_succ, List.setIfInBounds_toArray, List.set_cons_zero, List.set_cons_succ]
            refine wpAnyH_take (i := 7) (v := ?_) rfl (by kernel_rfl) (by kernel_rfl) (by kernel_rfl) (fun _ _ _ h => h) (Or.inl ⟨by rfl, ?_⟩) (by assumption) ?_
            rotate_left
            · (intro wz hSw; (try dsimp only at hSw); go_simp; try with_reducible rfl)
            simp only [Act.put, List.getElem_toArray, List.getElem_cons_zero, List.getElem_cons_succ, List.setIfInBounds_toArray, List.set_cons_zero, List.set_cons_succ]
            refine wpAnyH_take (i := 9) (v := ?_) rfl (by kernel_rfl) (by kernel_rfl) (by kernel_rfl) (fun _ _ _ h => h) (Or.inl ⟨by rfl, ?_⟩) (by assumption) ?_
            rotate_left
            · (intro wz hSw; (try dsimp only at hSw); go_simp; try with_reducible rfl)
            simp only [Act.put, List.getElem_toArray, List.getElem_cons_zero, List.getElem_cons_succ, List.setIfInBounds_toArray, List.set_cons_zero, List.set_cons_succ]
            refine wpAnyH_take (i := 11) (v := ?_) rfl (by kernel_rfl) (by kernel_rfl) (by kernel_rfl) (fun _ _ _ h => h) (Or.inl ⟨by rfl, ?_⟩) (by assumption) ?_
            rotate_left
            · (intro wz hSw; (try dsimp only at hSw); go_simp; try with_reducible rfl)
            simp only [Act.put, List.getElem_toArray, List.getElem_cons_zero, List.getElem_cons_succ, List.setIfInBounds_toArray, List.set_cons_zero, List.set_cons_succ]
            refine wpAnyH_take (i := 12) (v := ?_) rfl (by kernel_rfl) (by kernel_rfl) (by kernel_rfl) (fun _ _ _ h => h) (Or.inl ⟨by rfl, ?_⟩) (by assumption) ?_
            rotate_left
            · (intro wz hSw; (try dsimp only at hSw); go_simp; try with_reducible rfl)
            simp only [Act.put, List.getElem_toArray, List.getElem_cons_zero, List.getElem_cons_succ, List.setIfInBounds_toArray, List.set_cons_zero, List.set_cons_succ]
            refine wpAnyH_take (i := 13) (v := ?_) rfl (by kernel_rfl) (by kernel_rfl) (by kernel_rfl) (fun _ _ _ h => h) (Or.inl ⟨by rfl, ?_⟩) (by assumption) ?_
            rotate_left
            · (intro wz hSw; (try dsimp only at hSw); go_simp; try with_reducible rfl)
            simp only [Act.put, List.getElem_toArray, List.getElem_cons_zero, List.getElem_cons_succ, List.setIfInBounds_toArray, List.set_cons_zero, List.set_cons_succ]
            refine wpAnyH_ready (rs := [8]) (by kernel_rfl) (by simp) ?_
            refine AllReadyH.cons rfl (fun K hK => ?_) ?_
            · go_simp
              have q := implCommandWord_any ⟨k, a, cc, v⟩ u9
              rw [HX.out] at q
              refine q.mono ?_
              clear q
              rintro e w10 ⟨rfl, b10⟩
              have s10 := b10.size
              replace rx := rowKeep rx b10
              clear mx0 mx1 mx2 mx3
              obtain ⟨mx0, mx1, mx2, mx3⟩ := cells4 rx
              replace ry := rowKeep ry b10
              clear my0 my1 my2 my3
              obtain ⟨my0, my1, my2, my3⟩ := cells4 ry
              replace rz := rowKeep rz b10
              clear mz0 mz1 mz2 mz3
              obtain ⟨mz0, mz1, mz2, mz3⟩ := cells4 rz
              replace hB := below_later hB b10 (Nat.le_refl _)
              clear b10
              refine hK.out _ _ ⟨mx0, mx1, mx2, mx3, my0, my1, my2, my3, mz0, mz1, mz2, mz3⟩ (fun hHeld => ?_)
              clear hK K
              try simp only [Act.put, List.getElem_toArray, List.getElem_cons_zero, List.getElem_cons_succ, List.setIfInBounds_toArray, List.set_cons_zero, List.set_cons_succ]
              refine wpAnyH_take (i := 10) (v := ?_) rfl (by kernel_rfl) (by kernel_rfl) (by kernel_rfl) (fun _ _ _ h => h) (Or.inl ⟨by rfl, ?_⟩) (by assumption) ?_
              rotate_left
              · (intro wz hSw; (try dsimp only at hSw); go_simp; try with_reducible rfl)
              simp only [Act.put, List.getElem_toArray, List.getElem_cons_zero, List.getElem_cons_succ, List.setIfInBounds_toArray, List.set_cons_zero, List.set_cons_succ]
              refine wpAnyH_take (i := 14) (v := ?_) rfl (by kernel_rfl) (by kernel_rfl) (by kernel_rfl) (fun _ _ _ h => h) (Or.inl ⟨by rfl, ?_⟩) (by assumption) ?_
              rotate_left
              · (intro wz hSw; (try dsimp only at hSw); go_simp; try with_reducible rfl)
              simp only [Act.put, List.getElem_toArray, List.getElem_cons_zero, List.getElem_cons_succ, List.setIfInBounds_toArray, List.set_cons_zero, List.set_cons_succ]
              refine wpAnyH_take (i := 15) (v := ?_) rfl (by kernel_rfl) (by kernel_rfl) (by kernel_rfl) (fun _ _ _ h => h) (Or.inl ⟨by rfl, ?_⟩) (by assumption) ?_
              rotate_left
              · (intro wz hSw; (try dsimp only at hSw); go_simp; try with_reducible rfl)
              simp only [Act.put, List.getElem_toArray, List.getElem_cons_zero, List.getElem_cons_succ, List.setIfInBounds_toArray, List.set_cons_zero, List.set_cons_succ]
              refine wpAnyH_take (i := 16) (v := ?_) rfl (by kernel_rfl) (by kernel_rfl) (by kernel_rfl) (fun _ _ _ h => h) (Or.inl ⟨by rfl, ?_⟩) (by assumption) ?_
              rotate_left
              · (intro wz hSw; (try dsimp only at hSw); go_simp; try with_reducible rfl)
              simp only [Act.put, List.getElem_toArray, List.getElem_cons_zero, List.getElem_cons_succ, List.setIfInBounds_toArray, List.set_cons_zero, List.set_cons_succ]
              refine wpAnyH_done (by kernel_rfl) ?_ _
              refine NoPanic.normal ?_
              go_wp2_with fail
              go_ret
              exact ⟨rfl, hB⟩
            exact AllReadyH.nil
          · have hne : ¬ cword ⟨k', a', cc', v'⟩ = m := fun he => e3 (by have := HI.out.1 he; injection this)
            have hx0 := hne
            clear HI
            go_wp2_with fail
            have hn9 : Below u8.heap.size u8 u8.drew := below_drewN (Below.refl _ _) 1
            have s9 : u8.heap.size ≤ u8.drew.heap.size := Nat.le_refl _
            replace rx := rowKeep rx hn9
            clear mx0 mx1 mx2 mx3
            obtain ⟨mx0, mx1, mx2, mx3⟩ := cells4 rx
            replace ry := rowKeep ry hn9
            clear my0 my1 my2 my3
            obtain ⟨my0, my1, my2, my3⟩ := cells4 ry
            replace rz := rowKeep rz hn9
            clear mz0 mz1 mz2 mz3
            obtain ⟨mz0, mz1, mz2, mz3⟩ := cells4 rz
            replace hB := below_later hB hn9 (Nat.le_refl _)
            clear hn9
            refine wp_region_noPanic ?_
            refine wp_region_held_drew (S := fun w' => w'.cell? ⟨w1.heap.size, 0, none⟩ = some (.int .i64 k) ∧ w'.cell? ⟨w1.heap.size, 1, none⟩ = some (.int .i64 a) ∧ w'.cell? ⟨w1.heap.size, 2, none⟩ = some (.int .i64 cc) ∧ w'.cell? ⟨w1.heap.size, 3, none⟩ = some (.int .i64 v) ∧ w'.cell? ⟨w3.heap.size, 0, none⟩ = some (.int .i64 k') ∧ w'.cell? ⟨w3.heap.size, 1, none⟩ = some (.int .i64 a') ∧ w'.cell? ⟨w3.heap.size, 2, none⟩ = some (.int .i64 cc') ∧ w'.cell? ⟨w3.heap.size, 3, none⟩ = some (.int .i64 v') ∧ w'.cell? ⟨w7.heap.size, 0, none⟩ = some (.int .i64 k) ∧ w'.cell? ⟨w7.heap.size, 1, none⟩ = some (.int .i64 a) ∧ w'.cell? ⟨w7.heap.size, 2, none⟩ = some (.int .i64 cc) ∧ w'.cell? ⟨w7.heap.size, 3, none⟩ = some (.int .i64 v)) (by kernel_rfl) ⟨mx0, mx1, mx2, mx3, my0, my1, my2, my3, mz0, mz1, mz2, mz3⟩ (fun hHeld => ?_)
            generalize u8.drew = u9 at *
            refine wpAnyH_take (i := 0) (v := ?_) rfl (by kernel_rfl) (by kernel_rfl) (by kernel_rfl) (fun _ _ _ h => h) (Or.inl ⟨by rfl, ?_⟩) (by assumption) ?_
            rotate_left
            · (intro wz hSw; (try dsimp only at hSw); go_simp; try with_reducible rfl)
            simp only [Act.put, List.getElem_toArray, List.getElem_cons_zero, List.getElem_cons_succ, List.setIfInBounds_toArray, List.set_cons_zero, List.set_cons_succ]
            refine wpAnyH_take (i := 1) (v := ?_) rfl (by kernel_rfl) (by kernel_rfl) (by kernel_rfl) (fun _ _ _ h => h) (Or.inl ⟨by rfl, ?_⟩) (by assumption) ?_
            rotate_left
            · (intro wz hSw; (try dsimp only at hSw); go_simp; try with_reducible rfl)
            simp only [Act.put, List.getElem_toArray, List.getElem_cons_zero, List.getElem_cons_succ, List.setIfInBounds_toArray, List.set_cons_zero, List.set_cons_succ]
            refine wpAnyH_take (i := 2) (v := ?_) rfl (by kernel_rfl) (by kernel_rfl) (by kernel_rfl) (fun _ _ _ h => h) (Or.inl ⟨by rfl, ?_⟩) (by assumption) ?_
            rotate_left
            · (intro wz hSw; (try dsimp only at hSw); go_simp; try with_reducible rfl)
            simp only [Act.put, List.getElem_toArray, List.getElem_cons_zero, List.getElem_cons_succ, List.setIfInBounds_toArray, List.set_cons_zero, List.set_cons_succ]
            refine wpAnyH_take (i := 3) (v := ?_) rfl (by kernel_rfl) (by kernel_rfl) (by kernel_rfl) (fun _ _ _ h => h) (Or.inl ⟨by rfl, ?_⟩) (by assumption) ?_
            rotate_left
            · (intro wz hSw; (try dsimp only at hSw); go_simp; try with_reducible rfl)
            simp only [Act.put, List.getElem_toArray, List.getElem_cons_zero, List.getElem_cons_succ, List.setIfInBounds_toArray, List.set_cons_zero, List.set_cons_succ]
            refine wpAnyH_take (i := 4) (v := ?_) rfl (by kernel_rfl) (by kernel_rfl) (by kernel_rfl) (fun _ _ _ h => h) (Or.inl ⟨by rfl, ?_⟩) (by assumption) ?_
            rotate_left
            · (intro wz hSw; (try dsimp only at hSw); go_simp; try with_reducible rfl)
            simp only [Act.put, List.getElem_toArray, List.getElem_cons_zero, List.getElem_cons_succ, List.setIfInBounds_toArray, List.set_cons_zero, List.set_cons_succ]
            refine wpAnyH_take (i := 5) (v := ?_) rfl (by kernel_rfl) (by kernel_rfl) (by kernel_rfl) (fun _ _ _ h => h) (Or.inl ⟨by rfl, ?_⟩) (by assumption) ?_
            rotate_left
            · (intro wz hSw; (try dsimp only at hSw); go_simp; try with_reducible rfl)
            simp only [Act.put, List.getElem_toArray, List.getElem_cons_zero, List.getElem_cons_succ, List.setIfInBounds_toArray, List.set_cons_zero, List.set_cons_succ]
            refine wpAnyH_take (i := 6) (v := ?_) rfl (by kernel_rfl) (by kernel_rfl) (by kernel_rfl) (fun _ _ _ h => h) (Or.inl ⟨by rfl, ?_⟩) (by assumption) ?_
            rotate_left
            · (intro wz hSw; (try dsimp only at hSw); go_simp; try with_reducible rfl)
            simp only [Act.put, List.getElem_toArray, List.getElem_cons_zero, List.getElem_cons_succ, List.setIfInBounds_toArray, List.set_cons_zero, List.set_cons_succ]
            refine wpAnyH_take (i := 7) (v := ?_) rfl (by kernel_rfl) (by kernel_rfl) (by kernel_rfl) (fun _ _ _ h => h) (Or.inl ⟨by rfl, ?_⟩) (by assumption) ?_
            rotate_left
            · (intro wz hSw; (try dsimp only at hSw); go_simp; try with_reducible rfl)
            simp only [Act.put, List.getElem_toArray, List.getElem_cons_zero, List.getElem_cons_succ, List.setIfInBounds_toArray, List.set_cons_zero, List.set_cons_succ]
            refine wpAnyH_take (i := 9) (v := ?_) rfl (by kernel_rfl) (by kernel_rfl) (by kernel_rfl) (fun _ _ _ h => h) (Or.inl ⟨by rfl, ?_⟩) (by assumption) ?_
            rotate_left
            · (intro wz hSw; (try dsimp only at hSw); go_simp; try with_reducible rfl)
            simp only [Act.put, List.getElem_toArray, List.getElem_cons_zero, List.getElem_cons_succ, List.setIfInBounds_toArray, List.set_cons_zero, List.set_cons_succ]
            refine wpAnyH_take (i := 11) (v := ?_) rfl (by kernel_rfl) (by kernel_rfl) (by kernel_rfl) (fun _ _ _ h => h) (Or.inl ⟨by rfl, ?_⟩) (by assumption) ?_
            rotate_left
            · (intro wz hSw; (try dsimp only at hSw); go_simp; try with_reducible rfl)
            simp only [Act.put, List.getElem_toArray, List.getElem_cons_zero, List.getElem_cons_succ, List.setIfInBounds_toArray, List.set_cons_zero, List.set_cons_succ]
            refine wpAnyH_take (i := 12) (v := ?_) rfl (by kernel_rfl) (by kernel_rfl) (by kernel_rfl) (fun _ _ _ h => h) (Or.inl ⟨by rfl, ?_⟩) (by assumption) ?_
            rotate_left
            · (intro wz hSw; (try dsimp only at hSw); go_simp; try with_reducible rfl)
            simp only [Act.put, List.getElem_toArray, List.getElem_cons_zero, List.getElem_cons_succ, List.setIfInBounds_toArray, List.set_cons_zero, List.set_cons_succ]
            refine wpAnyH_take (i := 13) (v := ?_) rfl (by kernel_rfl) (by kernel_rfl) (by kernel_rfl) (fun _ _ _ h => h) (Or.inl ⟨by rfl, ?_⟩) (by assumption) ?_
            rotate_left
            · (intro wz hSw; (try dsimp only at hSw); go_simp; try with_reducible rfl)
            simp only [Act.put, List.getElem_toArray, List.getElem_cons_zero, List.getElem_cons_succ, List.setIfInBounds_toArray, List.set_cons_zero, List.set_cons_succ]
            refine wpAnyH_ready (rs := [8]) (by kernel_rfl) (by simp) ?_
            refine AllReadyH.cons rfl (fun K hK => ?_) ?_
            · go_simp
              refine (implCommandWord_any ⟨k', a', cc', v'⟩ _).mono ?_
              rintro e w10 ⟨rfl, b10⟩
              have s10 := b10.size
              replace rx := rowKeep rx b10
              clear mx0 mx1 mx2 mx3
              obtain ⟨mx0, mx1, mx2, mx3⟩ := cells4 rx
              replace ry := rowKeep ry b10
              clear my0 my1 my2 my3
              obtain ⟨my0, my1, my2, my3⟩ := cells4 ry
              replace rz := rowKeep rz b10
              clear mz0 mz1 mz2 mz3
              obtain ⟨mz0, mz1, mz2, mz3⟩ := cells4 rz
              replace hB := below_later hB b10 (Nat.le_refl _)
              clear b10
              refine hK.out _ _ ⟨mx0, mx1, mx2, mx3, my0, my1, my2, my3, mz0, mz1, mz2, mz3⟩ (fun hHeld => ?_)
              clear hK K
              try simp only [Act.put, List.getElem_toArray, List.getElem_cons_zero, List.getElem_cons_succ, List.setIfInBounds_toArray, List.set_cons_zero, List.set_cons_succ]
              refine wpAnyH_take (i := 10) (v := ?_) rfl (by kernel_rfl) (by kernel_rfl) (by kernel_rfl) (fun _ _ _ h => h) (Or.inl ⟨by rfl, ?_⟩) (by assumption) ?_
              rotate_left
              · (intro wz hSw; (try dsimp only at hSw); go_simp; try with_reducible rfl)
              simp only [Act.put, List.getElem_toArray, List.getElem_cons_zero, List.getElem_cons_succ, List.setIfInBounds_toArray, List.set_cons_zero, List.set_cons_succ]
              refine wpAnyH_take (i := 14) (v := ?_) rfl (by kernel_rfl) (by kernel_rfl) (by kernel_rfl) (fun _ _ _ h => h) (Or.inl ⟨by rfl, ?_⟩) (by assumption) ?_
              rotate_left
              · (intro wz hSw; (try dsimp only at hSw); go_simp; try with_reducible rfl)
              simp only [Act.put, List.getElem_toArray, List.getElem_cons_zero, List.getElem_cons_succ, List.setIfInBounds_toArray, List.set_cons_zero, List.set_cons_succ]
              refine wpAnyH_take (i := 15) (v := ?_) rfl (by kernel_rfl) (by kernel_rfl) (by kernel_rfl) (fun _ _ _ h => h) (Or.inl ⟨by rfl, ?_⟩) (by assumption) ?_
              rotate_left
              · (intro wz hSw; (try dsimp only at hSw); go_simp; try with_reducible rfl)
              simp only [Act.put, List.getElem_toArray, List.getElem_cons_zero, List.getElem_cons_succ, List.setIfInBounds_toArray, List.set_cons_zero, List.set_cons_succ]
              refine wpAnyH_take (i := 16) (v := ?_) rfl (by kernel_rfl) (by kernel_rfl) (by kernel_rfl) (fun _ _ _ h => h) (Or.inl ⟨by rfl, ?_⟩) (by assumption) ?_
              rotate_left
              · (intro wz hSw; (try dsimp only at hSw); go_simp; try with_reducible rfl)
              simp only [Act.put, List.getElem_toArray, List.getElem_cons_zero, List.getElem_cons_succ, List.setIfInBounds_toArray, List.set_cons_zero, List.set_cons_succ]
              refine wpAnyH_done (by kernel_rfl) ?_ _
              refine NoPanic.normal ?_
              go_wp2_with fail
              go_ret
              refine ⟨?_, hB⟩
              have hb : (cword ⟨k', a', cc', v'⟩ == m) = false := beq_eq_false_iff_ne.2 hx0
              show Ending.returned (.bool (!(cword ⟨k', a', cc', v'⟩ == m))) = _
              rw [hb]
              rfl
            exact AllReadyH.nil
        · have hne : ¬ cword ⟨k', a', cc', v'⟩ = m := fun he => e2 (by have := HI.out.1 he; injection this)
          have hx0 := hne
          clear HI
          go_wp2_with fail
          have hn9 : Below u8.heap.size u8 u8.drew := below_drewN (Below.refl _ _) 1
          have s9 : u8.heap.size ≤ u8.drew.heap.size := Nat.le_refl _
          replace rx := rowKeep rx hn9
          clear mx0 mx1 mx2 mx3
          obtain ⟨mx0, mx1, mx2, mx3⟩ := cells4 rx
          replace ry := rowKeep ry hn9
          clear my0 my1 my2 my3
          obtain ⟨my0, my1, my2, my3⟩ := cells4 ry
          replace rz := rowKeep rz hn9
          clear mz0 mz1 mz2 mz3
          obtain ⟨mz0, mz1, mz2, mz3⟩ := cells4 rz
          replace hB := below_later hB hn9 (Nat.le_refl _)
          clear hn9
          refine wp_region_noPanic ?_
          refine wp_region_held_drew (S := fun w' => w'.cell? ⟨w1.heap.size, 0, none⟩ = some (.int .i64 k) ∧ w'.cell? ⟨w1.heap.size, 1, none⟩ = some (.int .i64 a) ∧ w'.cell? ⟨w1.heap.size, 2, none⟩ = some (.int .i64 cc) ∧ w'.cell? ⟨w1.heap.size, 3, none⟩ = some (.int .i64 v) ∧ w'.cell? ⟨w3.heap.size, 0, none⟩ = some (.int .i64 k') ∧ w'.cell? ⟨w3.heap.size, 1, none⟩ = some (.int .i64 a') ∧ w'.cell? ⟨w3.heap.size, 2, none⟩ = some (.int .i64 cc') ∧ w'.cell? ⟨w3.heap.size, 3, none⟩ = some (.int .i64 v') ∧ w'.cell? ⟨w7.heap.size, 0, none⟩ = some (.int .i64 k) ∧ w'.cell? ⟨w7.heap.size, 1, none⟩ = some (.int .i64 a) ∧ w'.cell? ⟨w7.heap.size, 2, none⟩ = some (.int .i64 cc) ∧ w'.cell? ⟨w7.heap.size, 3, none⟩ = some (.int .i64 v)) (by kernel_rfl) ⟨mx0, mx1, mx2, mx3, my0, my1, my2, my3, mz0, mz1, mz2, mz3⟩ (fun hHeld => ?_)
          generalize u8.drew = u9 at *
          refine wpAnyH_take (i := 0) (v := ?_) rfl (by kernel_rfl) (by kernel_rfl) (by kernel_rfl) (fun _ _ _ h => h) (Or.inl ⟨by rfl, ?_⟩) (by assumption) ?_
          rotate_left
          · (intro wz hSw; (try dsimp only at hSw); go_simp; try with_reducible rfl)
          simp only [Act.put, List.getElem_toArray, List.getElem_cons_zero, List.getElem_cons_succ, List.setIfInBounds_toArray, List.set_cons_zero, List.set_cons_succ]
          refine wpAnyH_take (i := 1) (v := ?_) rfl (by kernel_rfl) (by kernel_rfl) (by kernel_rfl) (fun _ _ _ h => h) (Or.inl ⟨by rfl, ?_⟩) (by assumption) ?_
          rotate_left
          · (intro wz hSw; (try dsimp only at hSw); go_simp; try with_reducible rfl)
          simp only [Act.put, List.getElem_toArray, List.getElem_cons_zero, List.getElem_cons_succ, List.setIfInBounds_toArray, List.set_cons_zero, List.set_cons_succ]
          refine wpAnyH_take (i := 2) (v := ?_) rfl (by kernel_rfl) (by kernel_rfl) (by kernel_rfl) (fun _ _ _ h => h) (Or.inl ⟨by rfl, ?_⟩) (by assumption) ?_
          rotate_left
          · (intro wz hSw; (try dsimp only at hSw); go_simp; try with_reducible rfl)
          simp only [Act.put, List.getElem_toArray, List.getElem_cons_zero, List.getElem_cons_succ, List.setIfInBounds_toArray, List.set_cons_zero, List.set_cons_succ]
          refine wpAnyH_take (i := 3) (v := ?_) rfl (by kernel_rfl) (by kernel_rfl) (by kernel_rfl) (fun _ _ _ h => h) (Or.inl ⟨by rfl, ?_⟩) (by assumption) ?_
          rotate_left
          · (intro wz hSw; (try dsimp only at hSw); go_simp; try with_reducible rfl)
          simp only [Act.put, List.getElem_toArray, List.getElem_cons_zero, List.getElem_cons_succ, List.setIfInBounds_toArray, List.set_cons_zero, List.set_cons_succ]
          refine wpAnyH_take (i := 4) (v := ?_) rfl (by kernel_rfl) (by kernel_rfl) (by kernel_rfl) (fun _ _ _ h => h) (Or.inl ⟨by rfl, ?_⟩) (by assumption) ?_
          rotate_left
          · (intro wz hSw; (try dsimp only at hSw); go_simp; try with_reducible rfl)
          simp only [Act.put, List.getElem_toArray, List.getElem_cons_zero, List.getElem_cons_succ, List.setIfInBounds_toArray, List.set_cons_zero, List.set_cons_succ]
          refine wpAnyH_take (i := 5) (v := ?_) rfl (by kernel_rfl) (by kernel_rfl) (by kernel_rfl) (fun _ _ _ h => h) (Or.inl ⟨by rfl, ?_⟩) (by assumption) ?_
          rotate_left
          · (intro wz hSw; (try dsimp only at hSw); go_simp; try with_reducible rfl)
          simp only [Act.put, List.getElem_toArray, List.getElem_cons_zero, List.getElem_cons_succ, List.setIfInBounds_toArray, List.set_cons_zero, List.set_cons_succ]
          refine wpAnyH_take (i := 6) (v := ?_) rfl (by kernel_rfl) (by kernel_rfl) (by kernel_rfl) (fun _ _ _ h => h) (Or.inl ⟨by rfl, ?_⟩) (by assumption) ?_
          rotate_left
          · (intro wz hSw; (try dsimp only at hSw); go_simp; try with_reducible rfl)
          simp only [Act.put, List.getElem_toArray, List.getElem_cons_zero, List.getElem_cons_succ, List.setIfInBounds_toArray, List.set_cons_zero, List.set_cons_succ]
          refine wpAnyH_take (i := 7) (v := ?_) rfl (by kernel_rfl) (by kernel_rfl) (by kernel_rfl) (fun _ _ _ h => h) (Or.inl ⟨by rfl, ?_⟩) (by assumption) ?_
          rotate_left
          · (intro wz hSw; (try dsimp only at hSw); go_simp; try with_reducible rfl)
          simp only [Act.put, List.getElem_toArray, List.getElem_cons_zero, List.getElem_cons_succ, List.setIfInBounds_toArray, List.set_cons_zero, List.set_cons_succ]
          refine wpAnyH_take (i := 9) (v := ?_) rfl (by kernel_rfl) (by kernel_rfl) (by kernel_rfl) (fun _ _ _ h => h) (Or.inl ⟨by rfl, ?_⟩) (by assumption) ?_
          rotate_left
          · (intro wz hSw; (try dsimp only at hSw); go_simp; try with_reducible rfl)
          simp only [Act.put, List.getElem_toArray, List.getElem_cons_zero, List.getElem_cons_succ, List.setIfInBounds_toArray, List.set_cons_zero, List.set_cons_succ]
          refine wpAnyH_take (i := 11) (v := ?_) rfl (by kernel_rfl) (by kernel_rfl) (by kernel_rfl) (fun _ _ _ h => h) (Or.inl ⟨by rfl, ?_⟩) (by assumption) ?_
          rotate_left
          · (intro wz hSw; (try dsimp only at hSw); go_simp; try with_reducible rfl)
          simp only [Act.put, List.getElem_toArray, List.getElem_cons_zero, List.getElem_cons_succ, List.setIfInBounds_toArray, List.set_cons_zero, List.set_cons_succ]
          refine wpAnyH_take (i := 12) (v := ?_) rfl (by kernel_rfl) (by kernel_rfl) (by kernel_rfl) (fun _ _ _ h => h) (Or.inl ⟨by rfl, ?_⟩) (by assumption) ?_
          rotate_left
          · (intro wz hSw; (try dsimp only at hSw); go_simp; try with_reducible rfl)
          simp only [Act.put, List.getElem_toArray, List.getElem_cons_zero, List.getElem_cons_succ, List.setIfInBounds_toArray, List.set_cons_zero, List.set_cons_succ]
          refine wpAnyH_take (i := 13) (v := ?_) rfl (by kernel_rfl) (by kernel_rfl) (by kernel_rfl) (fun _ _ _ h => h) (Or.inl ⟨by rfl, ?_⟩) (by assumption) ?_
          rotate_left
          · (intro wz hSw; (try dsimp only at hSw); go_simp; try with_reducible rfl)
          simp only [Act.put, List.getElem_toArray, List.getElem_cons_zero, List.getElem_cons_succ, List.setIfInBounds_toArray, List.set_cons_zero, List.set_cons_succ]
          refine wpAnyH_ready (rs := [8]) (by kernel_rfl) (by simp) ?_
          refine AllReadyH.cons rfl (fun K hK => ?_) ?_
          · go_simp
            refine (implCommandWord_any ⟨k', a', cc', v'⟩ _).mono ?_
            rintro e w10 ⟨rfl, b10⟩
            have s10 := b10.size
            replace rx := rowKeep rx b10
            clear mx0 mx1 mx2 mx3
            obtain ⟨mx0, mx1, mx2, mx3⟩ := cells4 rx
            replace ry := rowKeep ry b10
            clear my0 my1 my2 my3
            obtain ⟨my0, my1, my2, my3⟩ := cells4 ry
            replace rz := rowKeep rz b10
            clear mz0 mz1 mz2 mz3
            obtain ⟨mz0, mz1, mz2, mz3⟩ := cells4 rz
            replace hB := below_later hB b10 (Nat.le_refl _)
            clear b10
            refine hK.out _ _ ⟨mx0, mx1, mx2, mx3, my0, my1, my2, my3, mz0, mz1, mz2, mz3⟩ (fun hHeld => ?_)
            clear hK K
            try simp only [Act.put, List.getElem_toArray, List.getElem_cons_zero, List.getElem_cons_succ, List.setIfInBounds_toArray, List.set_cons_zero, List.set_cons_succ]
            refine wpAnyH_take (i := 10) (v := ?_) rfl (by kernel_rfl) (by kernel_rfl) (by kernel_rfl) (fun _ _ _ h => h) (Or.inl ⟨by rfl, ?_⟩) (by assumption) ?_
            rotate_left
            · (intro wz hSw; (try dsimp only at hSw); go_simp; try with_reducible rfl)
            simp only [Act.put, List.getElem_toArray, List.getElem_cons_zero, List.getElem_cons_succ, List.setIfInBounds_toArray, List.set_cons_zero, List.set_cons_succ]
            refine wpAnyH_take (i := 14) (v := ?_) rfl (by kernel_rfl) (by kernel_rfl) (by kernel_rfl) (fun _ _ _ h => h) (Or.inl ⟨by rfl, ?_⟩) (by assumption) ?_
            rotate_left
            · (intro wz hSw; (try dsimp only at hSw); go_simp; try with_reducible rfl)
            simp only [Act.put, List.getElem_toArray, List.getElem_cons_zero, List.getElem_cons_succ, List.setIfInBounds_toArray, List.set_cons_zero, List.set_cons_succ]
            refine wpAnyH_take (i := 15) (v := ?_) rfl (by kernel_rfl) (by kernel_rfl) (by kernel_rfl) (fun _ _ _ h => h) (Or.inl ⟨by rfl, ?_⟩) (by assumption) ?_
            rotate_left
            · (intro wz hSw; (try dsimp only at hSw); go_simp; try with_reducible rfl)
            simp only [Act.put, List.getElem_toArray, List.getElem_cons_zero, List.getElem_cons_succ, List.setIfInBounds_toArray, List.set_cons_zero, List.set_cons_succ]
            refine wpAnyH_take (i := 16) (v := ?_) rfl (by kernel_rfl) (by kernel_rfl) (by kernel_rfl) (fun _ _ _ h => h) (Or.inl ⟨by rfl, ?_⟩) (by assumption) ?_
            rotate_left
            · (intro wz hSw; (try dsimp only at hSw); go_simp; try with_reducible rfl)
            simp only [Act.put, List.getElem_toArray, List.getElem_cons_zero, List.getElem_cons_succ, List.setIfInBounds_toArray, List.set_cons_zero, List.set_cons_succ]
            refine wpAnyH_done (by kernel_rfl) ?_ _
            refine NoPanic.normal ?_
            go_wp2_with fail
            go_ret
            refine ⟨?_, hB⟩
            have hb : (cword ⟨k', a', cc', v'⟩ == m) = false := beq_eq_false_iff_ne.2 hx0
            show Ending.returned (.bool (!(cword ⟨k', a', cc', v'⟩ == m))) = _
            rw [hb]
            rfl
          exact AllReadyH.nil
      · have hne : ¬ cword ⟨k', a', cc', v'⟩ = m := fun he => e1 (by have := HI.out.1 he; injection this)
        have hx0 := hne
        clear HI
        go_wp2_with fail
        have hn9 : Below u8.heap.size u8 u8.drew := below_drewN (Below.refl _ _) 1
        have s9 : u8.heap.size ≤ u8.drew.heap.size := Nat.le_refl _
        replace rx := rowKeep rx hn9
        clear mx0 mx1 mx2 mx3
        obtain ⟨mx0, mx1, mx2, mx3⟩ := cells4 rx
        replace ry := rowKeep ry hn9
        clear my0 my1 my2 my3
        obtain ⟨my0, my1, my2, my3⟩ := cells4 ry
        replace rz := rowKeep rz hn9
        clear mz0 mz1 mz2 mz3
        obtain ⟨mz0, mz1, mz2, mz3⟩ := cells4 rz
        replace hB := below_later hB hn9 (Nat.le_refl _)
        clear hn9
        refine wp_region_noPanic ?_
        refine wp_region_held_drew (S := fun w' => w'.cell? ⟨w1.heap.size, 0, none⟩ = some (.int .i64 k) ∧ w'.cell? ⟨w1.heap.size, 1, none⟩ = some (.int .i64 a) ∧ w'.cell? ⟨w1.heap.size, 2, none⟩ = some (.int .i64 cc) ∧ w'.cell? ⟨w1.heap.size, 3, none⟩ = some (.int .i64 v) ∧ w'.cell? ⟨w3.heap.size, 0, none⟩ = some (.int .i64 k') ∧ w'.cell? ⟨w3.heap.size, 1, none⟩ = some (.int .i64 a') ∧ w'.cell? ⟨w3.heap.size, 2, none⟩ = some (.int .i64 cc') ∧ w'.cell? ⟨w3.heap.size, 3, none⟩ = some (.int .i64 v') ∧ w'.cell? ⟨w7.heap.size, 0, none⟩ = some (.int .i64 k) ∧ w'.cell? ⟨w7.heap.size, 1, none⟩ = some (.int .i64 a) ∧ w'.cell? ⟨w7.heap.size, 2, none⟩ = some (.int .i64 cc) ∧ w'.cell? ⟨w7.heap.size, 3, none⟩ = some (.int .i64 v)) (by kernel_rfl) ⟨mx0, mx1, mx2, mx3, my0, my1, my2, my3, mz0, mz1, mz2, mz3⟩ (fun hHeld => ?_)
        generalize u8.drew = u9 at *
        refine wpAnyH_take (i := 0) (v := ?_) rfl (by kernel_rfl) (by kernel_rfl) (by kernel_rfl) (fun _ _ _ h => h) (Or.inl ⟨by rfl, ?_⟩) (by assumption) ?_
        rotate_left
        · (intro wz hSw; (try dsimp only at hSw); go_simp; try with_reducible rfl)
        simp only [Act.put, List.getElem_toArray, List.getElem_cons_zero, List.getElem_cons_succ, List.setIfInBounds_toArray, List.set_cons_zero, List.set_cons_succ]
        refine wpAnyH_take (i := 1) (v := ?_) rfl (by kernel_rfl) (by kernel_rfl) (by kernel_rfl) (fun _ _ _ h => h) (Or.inl ⟨by rfl, ?_⟩) (by assumption) ?_
        rotate_left
        · (intro wz hSw; (try dsimp only at hSw); go_simp; try with_reducible rfl)
        simp only [Act.put, List.getElem_toArray, List.getElem_cons_zero, List.getElem_cons_succ, List.setIfInBounds_toArray, List.set_cons_zero, List.set_cons_succ]
        refine wpAnyH_take (i := 2) (v := ?_) rfl (by kernel_rfl) (by kernel_rfl) (by kernel_rfl) (fun _ _ _ h => h) (Or.inl ⟨by rfl, ?_⟩) (by assumption) ?_
        rotate_left
        · (intro wz hSw; (try dsimp only at hSw); go_simp; try with_reducible rfl)
        simp only [Act.put, List.getElem_toArray, List.getElem_cons_zero, List.getElem_cons_succ, List.setIfInBounds_toArray, List.set_cons_zero, List.set_cons_succ]
        refine wpAnyH_take (i := 3) (v := ?_) rfl (by kernel_rfl) (by kernel_rfl) (by kernel_rfl) (fun _ _ _ h => h) (Or.inl ⟨by rfl, ?_⟩) (by assumption) ?_
        rotate_left
        · (intro wz hSw; (try dsimp only at hSw); go_simp; try with_reducible rfl)
        simp only [Act.put, List.getElem_toArray, List.getElem_cons_zero, List.getElem_cons_succ, List.setIfInBounds_toArray, List.set_cons_zero, List.set_cons_succ]
        refine wpAnyH_take (i := 4) (v := ?_) rfl (by kernel_rfl) (by kernel_rfl) (by kernel_rfl) (fun _ _ _ h => h) (Or.inl ⟨by rfl, ?_⟩) (by assumption) ?_
        rotate_left
        · (intro wz hSw; (try dsimp only at hSw); go_simp; try with_reducible rfl)
        simp only [Act.put, List.getElem_toArray, List.getElem_cons_zero, List.getElem_cons_succ, List.setIfInBounds_toArray, List.set_cons_zero, List.set_cons_succ]
        refine wpAnyH_take (i := 5) (v := ?_) rfl (by kernel_rfl) (by kernel_rfl) (by kernel_rfl) (fun _ _ _ h => h) (Or.inl ⟨by rfl, ?_⟩) (by assumption) ?_
        rotate_left
        · (intro wz hSw; (try dsimp only at hSw); go_simp; try with_reducible rfl)
        simp only [Act.put, List.getElem_toArray, List.getElem_cons_zero, List.getElem_cons_succ, List.setIfInBounds_toArray, List.set_cons_zero, List.set_cons_succ]
        refine wpAnyH_take (i := 6) (v := ?_) rfl (by kernel_rfl) (by kernel_rfl) (by kernel_rfl) (fun _ _ _ h => h) (Or.inl ⟨by rfl, ?_⟩) (by assumption) ?_
        rotate_left
        · (intro wz hSw; (try dsimp only at hSw); go_simp; try with_reducible rfl)
        simp only [Act.put, List.getElem_toArray, List.getElem_cons_zero, List.getElem_cons_succ, List.setIfInBounds_toArray, List.set_cons_zero, List.set_cons_succ]
        refine wpAnyH_take (i := 7) (v := ?_) rfl (by kernel_rfl) (by kernel_rfl) (by kernel_rfl) (fun _ _ _ h => h) (Or.inl ⟨by rfl, ?_⟩) (by assumption) ?_
        rotate_left
        · (intro wz hSw; (try dsimp only at hSw); go_simp; try with_reducible rfl)
        simp only [Act.put, List.getElem_toArray, List.getElem_cons_zero, List.getElem_cons_succ, List.setIfInBounds_toArray, List.set_cons_zero, List.set_cons_succ]
        refine wpAnyH_take (i := 9) (v := ?_) rfl (by kernel_rfl) (by kernel_rfl) (by kernel_rfl) (fun _ _ _ h => h) (Or.inl ⟨by rfl, ?_⟩) (by assumption) ?_
        rotate_left
        · (intro wz hSw; (try dsimp only at hSw); go_simp; try with_reducible rfl)
        simp only [Act.put, List.getElem_toArray, List.getElem_cons_zero, List.getElem_cons_succ, List.setIfInBounds_toArray, List.set_cons_zero, List.set_cons_succ]
        refine wpAnyH_take (i := 11) (v := ?_) rfl (by kernel_rfl) (by kernel_rfl) (by kernel_rfl) (fun _ _ _ h => h) (Or.inl ⟨by rfl, ?_⟩) (by assumption) ?_
        rotate_left
        · (intro wz hSw; (try dsimp only at hSw); go_simp; try with_reducible rfl)
        simp only [Act.put, List.getElem_toArray, List.getElem_cons_zero, List.getElem_cons_succ, List.setIfInBounds_toArray, List.set_cons_zero, List.set_cons_succ]
        refine wpAnyH_take (i := 12) (v := ?_) rfl (by kernel_rfl) (by kernel_rfl) (by kernel_rfl) (fun _ _ _ h => h) (Or.inl ⟨by rfl, ?_⟩) (by assumption) ?_
        rotate_left
        · (intro wz hSw; (try dsimp only at hSw); go_simp; try with_reducible rfl)
        simp only [Act.put, List.getElem_toArray, List.getElem_cons_zero, List.getElem_cons_succ, List.setIfInBounds_toArray, List.set_cons_zero, List.set_cons_succ]
        refine wpAnyH_take (i := 13) (v := ?_) rfl (by kernel_rfl) (by kernel_rfl) (by kernel_rfl) (fun _ _ _ h => h) (Or.inl ⟨by rfl, ?_⟩) (by assumption) ?_
        rotate_left
        · (intro wz hSw; (try dsimp only at hSw); go_simp; try with_reducible rfl)
        simp only [Act.put, List.getElem_toArray, List.getElem_cons_zero, List.getElem_cons_succ, List.setIfInBounds_toArray, List.set_cons_zero, List.set_cons_succ]
        refine wpAnyH_ready (rs := [8]) (by kernel_rfl) (by simp) ?_
        refine AllReadyH.cons rfl (fun K hK => ?_) ?_
        · go_simp
          refine (implCommandWord_any ⟨k', a', cc', v'⟩ _).mono ?_
          rintro e w10 ⟨rfl, b10⟩
          have s10 := b10.size
          replace rx := rowKeep rx b10
          clear mx0 mx1 mx2 mx3
          obtain ⟨mx0, mx1, mx2, mx3⟩ := cells4 rx
          replace ry := rowKeep ry b10
          clear my0 my1 my2 my3
          obtain ⟨my0, my1, my2, my3⟩ := cells4 ry
          replace rz := rowKeep rz b10
          clear mz0 mz1 mz2 mz3
          obtain ⟨mz0, mz1, mz2, mz3⟩ := cells4 rz
          replace hB := below_later hB b10 (Nat.le_refl _)
          clear b10
          refine hK.out _ _ ⟨mx0, mx1, mx2, mx3, my0, my1, my2, my3, mz0, mz1, mz2, mz3⟩ (fun hHeld => ?_)
          clear hK K
          try simp only [Act.put, List.getElem_toArray, List.getElem_cons_zero, List.getElem_cons_succ, List.setIfInBounds_toArray, List.set_cons_zero, List.set_cons_succ]
          refine wpAnyH_take (i := 10) (v := ?_) rfl (by kernel_rfl) (by kernel_rfl) (by kernel_rfl) (fun _ _ _ h => h) (Or.inl ⟨by rfl, ?_⟩) (by assumption) ?_
          rotate_left
          · (intro wz hSw; (try dsimp only at hSw); go_simp; try with_reducible rfl)
          simp only [Act.put, List.getElem_toArray, List.getElem_cons_zero, List.getElem_cons_succ, List.setIfInBounds_toArray, List.set_cons_zero, List.set_cons_succ]
          refine wpAnyH_take (i := 14) (v := ?_) rfl (by kernel_rfl) (by kernel_rfl) (by kernel_rfl) (fun _ _ _ h => h) (Or.inl ⟨by rfl, ?_⟩) (by assumption) ?_
          rotate_left
          · (intro wz hSw; (try dsimp only at hSw); go_simp; try with_reducible rfl)
          simp only [Act.put, List.getElem_toArray, List.getElem_cons_zero, List.getElem_cons_succ, List.setIfInBounds_toArray, List.set_cons_zero, List.set_cons_succ]
          refine wpAnyH_take (i := 15) (v := ?_) rfl (by kernel_rfl) (by kernel_rfl) (by kernel_rfl) (fun _ _ _ h => h) (Or.inl ⟨by rfl, ?_⟩) (by assumption) ?_
          rotate_left
          · (intro wz hSw; (try dsimp only at hSw); go_simp; try with_reducible rfl)
          simp only [Act.put, List.getElem_toArray, List.getElem_cons_zero, List.getElem_cons_succ, List.setIfInBounds_toArray, List.set_cons_zero, List.set_cons_succ]
          refine wpAnyH_take (i := 16) (v := ?_) rfl (by kernel_rfl) (by kernel_rfl) (by kernel_rfl) (fun _ _ _ h => h) (Or.inl ⟨by rfl, ?_⟩) (by assumption) ?_
          rotate_left
          · (intro wz hSw; (try dsimp only at hSw); go_simp; try with_reducible rfl)
          simp only [Act.put, List.getElem_toArray, List.getElem_cons_zero, List.getElem_cons_succ, List.setIfInBounds_toArray, List.set_cons_zero, List.set_cons_succ]
          refine wpAnyH_done (by kernel_rfl) ?_ _
          refine NoPanic.normal ?_
          go_wp2_with fail
          go_ret
          refine ⟨?_, hB⟩
          have hb : (cword ⟨k', a', cc', v'⟩ == m) = false := beq_eq_false_iff_ne.2 hx0
          show Ending.returned (.bool (!(cword ⟨k', a', cc', v'⟩ == m))) = _
          rw [hb]
          rfl
        exact AllReadyH.nil
    · have hne : ¬ cword ⟨k', a', cc', v'⟩ = m := fun he => e0 (by have := HI.out.1 he; injection this)
      have hx0 := hne
      clear HI
      go_wp2_with fail
      have hn9 : Below u8.heap.size u8 u8.drew := below_drewN (Below.refl _ _) 1
      have s9 : u8.heap.size ≤ u8.drew.heap.size := Nat.le_refl _
      replace rx := rowKeep rx hn9
      clear mx0 mx1 mx2 mx3
      obtain ⟨mx0, mx1, mx2, mx3⟩ := cells4 rx
      replace ry := rowKeep ry hn9
      clear my0 my1 my2 my3
      obtain ⟨my0, my1, my2, my3⟩ := cells4 ry
      replace rz := rowKeep rz hn9
      clear mz0 mz1 mz2 mz3
      obtain ⟨mz0, mz1, mz2, mz3⟩ := cells4 rz
      replace hB := below_later hB hn9 (Nat.le_refl _)
      clear hn9
      refine wp_region_noPanic ?_
      refine wp_region_held_drew (S := fun w' => w'.cell? ⟨w1.heap.size, 0, none⟩ = some (.int .i64 k) ∧ w'.cell? ⟨w1.heap.size, 1, none⟩ = some (.int .i64 a) ∧ w'.cell? ⟨w1.heap.size, 2, none⟩ = some (.int .i64 cc) ∧ w'.cell? ⟨w1.heap.size, 3, none⟩ = some (.int .i64 v) ∧ w'.cell? ⟨w3.heap.size, 0, none⟩ = some (.int .i64 k') ∧ w'.cell? ⟨w3.heap.size, 1, none⟩ = some (.int .i64 a') ∧ w'.cell? ⟨w3.heap.size, 2, none⟩ = some (.int .i64 cc') ∧ w'.cell? ⟨w3.heap.size, 3, none⟩ = some (.int .i64 v') ∧ w'.cell? ⟨w7.heap.size, 0, none⟩ = some (.int .i64 k) ∧ w'.cell? ⟨w7.heap.size, 1, none⟩ = some (.int .i64 a) ∧ w'.cell? ⟨w7.heap.size, 2, none⟩ = some (.int .i64 cc) ∧ w'.cell? ⟨w7.heap.size, 3, none⟩ = some (.int .i64 v)) (by kernel_rfl) ⟨mx0, mx1, mx2, mx3, my0, my1, my2, my3, mz0, mz1, mz2, mz3⟩ (fun hHeld => ?_)
      generalize u8.drew = u9 at *
      refine wpAnyH_take (i := 0) (v := ?_) rfl (by kernel_rfl) (by kernel_rfl) (by kernel_rfl) (fun _ _ _ h => h) (Or.inl ⟨by rfl, ?_⟩) (by assumption) ?_
      rotate_left
      · (intro wz hSw; (try dsimp only at hSw); go_simp; try with_reducible rfl)
      simp only [Act.put, List.getElem_toArray, List.getElem_cons_zero, List.getElem_cons_succ, List.setIfInBounds_toArray, List.set_cons_zero, List.set_cons_succ]
      refine wpAnyH_take (i := 1) (v := ?_) rfl (by kernel_rfl) (by kernel_rfl) (by kernel_rfl) (fun _ _ _ h => h) (Or.inl ⟨by rfl, ?_⟩) (by assumption) ?_
      rotate_left
      · (intro wz hSw; (try dsimp only at hSw); go_simp; try with_reducible rfl)
      simp only [Act.put, List.getElem_toArray, List.getElem_cons_zero, List.getElem_cons_succ, List.setIfInBounds_toArray, List.set_cons_zero, List.set_cons_succ]
      refine wpAnyH_take (i := 2) (v := ?_) rfl (by kernel_rfl) (by kernel_rfl) (by kernel_rfl) (fun _ _ _ h => h) (Or.inl ⟨by rfl, ?_⟩) (by assumption) ?_
      rotate_left
      · (intro wz hSw; (try dsimp only at hSw); go_simp; try with_reducible rfl)
      simp only [Act.put, List.getElem_toArray, List.getElem_cons_zero, List.getElem_cons_succ, List.setIfInBounds_toArray, List.set_cons_zero, List.set_cons_succ]
      refine wpAnyH_take (i := 3) (v := ?_) rfl (by kernel_rfl) (by kernel_rfl) (by kernel_rfl) (fun _ _ _ h => h) (Or.inl ⟨by rfl, ?_⟩) (by assumption) ?_
      rotate_left
      · (intro wz hSw; (try dsimp only at hSw); go_simp; try with_reducible rfl)
      simp only [Act.put, List.getElem_toArray, List.getElem_cons_zero, List.getElem_cons_succ, List.setIfInBounds_toArray, List.set_cons_zero, List.set_cons_succ]
      refine wpAnyH_take (i := 4) (v := ?_) rfl (by kernel_rfl) (by kernel_rfl) (by kernel_rfl) (fun _ _ _ h => h) (Or.inl ⟨by rfl, ?_⟩) (by assumption) ?_
      rotate_left
      · (intro wz hSw; (try dsimp only at hSw); go_simp; try with_reducible rfl)
      simp only [Act.put, List.getElem_toArray, List.getElem_cons_zero, List.getElem_cons_succ, List.setIfInBounds_toArray, List.set_cons_zero, List.set_cons_succ]
      refine wpAnyH_take (i := 5) (v := ?_) rfl (by kernel_rfl) (by kernel_rfl) (by kernel_rfl) (fun _ _ _ h => h) (Or.inl ⟨by rfl, ?_⟩) (by assumption) ?_
      rotate_left
      · (intro wz hSw; (try dsimp only at hSw); go_simp; try with_reducible rfl)
      simp only [Act.put, List.getElem_toArray, List.getElem_cons_zero, List.getElem_cons_succ, List.setIfInBounds_toArray, List.set_cons_zero, List.set_cons_succ]
      refine wpAnyH_take (i := 6) (v := ?_) rfl (by kernel_rfl) (by kernel_rfl) (by kernel_rfl) (fun _ _ _ h => h) (Or.inl ⟨by rfl, ?_⟩) (by assumption) ?_
      rotate_left
      · (intro wz hSw; (try dsimp only at hSw); go_simp; try with_reducible rfl)
      simp only [Act.put, List.getElem_toArray, List.getElem_cons_zero, List.getElem_cons_succ, List.setIfInBounds_toArray, List.set_cons_zero, List.set_cons_succ]
      refine wpAnyH_take (i := 7) (v := ?_) rfl (by kernel_rfl) (by kernel_rfl) (by kernel_rfl) (fun _ _ _ h => h) (Or.inl ⟨by rfl, ?_⟩) (by assumption) ?_
      rotate_left
      · (intro wz hSw; (try dsimp only at hSw); go_simp; try with_reducible rfl)
      simp only [Act.put, List.getElem_toArray, List.getElem_cons_zero, List.getElem_cons_succ, List.setIfInBounds_toArray, List.set_cons_zero, List.set_cons_succ]
      refine wpAnyH_take (i := 9) (v := ?_) rfl (by kernel_rfl) (by kernel_rfl) (by kernel_rfl) (fun _ _ _ h => h) (Or.inl ⟨by rfl, ?_⟩) (by assumption) ?_
      rotate_left
      · (intro wz hSw; (try dsimp only at hSw); go_simp; try with_reducible rfl)
      simp only [Act.put, List.getElem_toArray, List.getElem_cons_zero, List.getElem_cons_succ, List.setIfInBounds_toArray, List.set_cons_zero, List.set_cons_succ]
      refine wpAnyH_take (i := 11) (v := ?_) rfl (by kernel_rfl) (by kernel_rfl) (by kernel_rfl) (fun _ _ _ h => h) (Or.inl ⟨by rfl, ?_⟩) (by assumption) ?_
      rotate_left
      · (intro wz hSw; (try dsimp only at hSw); go_simp; try with_reducible rfl)
      simp only [Act.put, List.getElem_toArray, List.getElem_cons_zero, List.getElem_cons_succ, List.setIfInBounds_toArray, List.set_cons_zero, List.set_cons_succ]
      refine wpAnyH_take (i := 12) (v := ?_) rfl (by kernel_rfl) (by kernel_rfl) (by kernel_rfl) (fun _ _ _ h => h) (Or.inl ⟨by rfl, ?_⟩) (by assumption) ?_
      rotate_left
      · (intro wz hSw; (try dsimp only at hSw); go_simp; try with_reducible rfl)
      simp only [Act.put, List.getElem_toArray, List.getElem_cons_zero, List.getElem_cons_succ, List.setIfInBounds_toArray, List.set_cons_zero, List.set_cons_succ]
      refine wpAnyH_take (i := 13) (v := ?_) rfl (by kernel_rfl) (by kernel_rfl) (by kernel_rfl) (fun _ _ _ h => h) (Or.inl ⟨by rfl, ?_⟩) (by assumption) ?_
      rotate_left
      · (intro wz hSw; (try dsimp only at hSw); go_simp; try with_reducible rfl)
      simp only [Act.put, List.getElem_toArray, List.getElem_cons_zero, List.getElem_cons_succ, List.setIfInBounds_toArray, List.set_cons_zero, List.set_cons_succ]
      refine wpAnyH_ready (rs := [8]) (by kernel_rfl) (by simp) ?_
      refine AllReadyH.cons rfl (fun K hK => ?_) ?_
      · go_simp
        refine (implCommandWord_any ⟨k', a', cc', v'⟩ _).mono ?_
        rintro e w10 ⟨rfl, b10⟩
        have s10 := b10.size
        replace rx := rowKeep rx b10
        clear mx0 mx1 mx2 mx3
        obtain ⟨mx0, mx1, mx2, mx3⟩ := cells4 rx
        replace ry := rowKeep ry b10
        clear my0 my1 my2 my3
        obtain ⟨my0, my1, my2, my3⟩ := cells4 ry
        replace rz := rowKeep rz b10
        clear mz0 mz1 mz2 mz3
        obtain ⟨mz0, mz1, mz2, mz3⟩ := cells4 rz
        replace hB := below_later hB b10 (Nat.le_refl _)
        clear b10
        refine hK.out _ _ ⟨mx0, mx1, mx2, mx3, my0, my1, my2, my3, mz0, mz1, mz2, mz3⟩ (fun hHeld => ?_)
        clear hK K
        try simp only [Act.put, List.getElem_toArray, List.getElem_cons_zero, List.getElem_cons_succ, List.setIfInBounds_toArray, List.set_cons_zero, List.set_cons_succ]
        refine wpAnyH_take (i := 10) (v := ?_) rfl (by kernel_rfl) (by kernel_rfl) (by kernel_rfl) (fun _ _ _ h => h) (Or.inl ⟨by rfl, ?_⟩) (by assumption) ?_
        rotate_left
        · (intro wz hSw; (try dsimp only at hSw); go_simp; try with_reducible rfl)
        simp only [Act.put, List.getElem_toArray, List.getElem_cons_zero, List.getElem_cons_succ, List.setIfInBounds_toArray, List.set_cons_zero, List.set_cons_succ]
        refine wpAnyH_take (i := 14) (v := ?_) rfl (by kernel_rfl) (by kernel_rfl) (by kernel_rfl) (fun _ _ _ h => h) (Or.inl ⟨by rfl, ?_⟩) (by assumption) ?_
        rotate_left
        · (intro wz hSw; (try dsimp only at hSw); go_simp; try with_reducible rfl)
        simp only [Act.put, List.getElem_toArray, List.getElem_cons_zero, List.getElem_cons_succ, List.setIfInBounds_toArray, List.set_cons_zero, List.set_cons_succ]
        refine wpAnyH_take (i := 15) (v := ?_) rfl (by kernel_rfl) (by kernel_rfl) (by kernel_rfl) (fun _ _ _ h => h) (Or.inl ⟨by rfl, ?_⟩) (by assumption) ?_
        rotate_left
        · (intro wz hSw; (try dsimp only at hSw); go_simp; try with_reducible rfl)
        simp only [Act.put, List.getElem_toArray, List.getElem_cons_zero, List.getElem_cons_succ, List.setIfInBounds_toArray, List.set_cons_zero, List.set_cons_succ]
        refine wpAnyH_take (i := 16) (v := ?_) rfl (by kernel_rfl) (by kernel_rfl) (by kernel_rfl) (fun _ _ _ h => h) (Or.inl ⟨by rfl, ?_⟩) (by assumption) ?_
        rotate_left
        · (intro wz hSw; (try dsimp only at hSw); go_simp; try with_reducible rfl)
        simp only [Act.put, List.getElem_toArray, List.getElem_cons_zero, List.getElem_cons_succ, List.setIfInBounds_toArray, List.set_cons_zero, List.set_cons_succ]
        refine wpAnyH_done (by kernel_rfl) ?_ _
        refine NoPanic.normal ?_
        go_wp2_with fail
        go_ret
        refine ⟨?_, hB⟩
        have hb : (cword ⟨k', a', cc', v'⟩ == m) = false := beq_eq_false_iff_ne.2 hx0
        show Ending.returned (.bool (!(cword ⟨k', a', cc', v'⟩ == m))) = _
        rw [hb]
        rfl
      exact AllReadyH.nil
end Go.Proofs.Ytiibnkcdeldiaaa
