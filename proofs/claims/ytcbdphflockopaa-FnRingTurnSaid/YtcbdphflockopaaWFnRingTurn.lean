/-
  Walk: the law FnRingTurn returns true.
-/
import Derived.Test.YtcbdphflockopaaR9
import Derived.Test.YtcbdphflockopaaR7
import Derived.Test.YtcbdphflockopaaS4
import Derived.Test.YtcbdphflockopaaA
namespace Go.Proofs.Ytcbdphflockopaa
open Go.RowKit
set_option linter.unusedSimpArgs false
set_option linter.unusedVariables false
set_option maxHeartbeats 40000000 in
theorem law_FnRingTurn (w : World) (A : Option Addr) (n c : Nat) (bs : List Int) (h : Sees w w.heap.size 1 A n c (byts bs)) (hb : ∀ v ∈ bs, 0 ≤ v ∧ v ≤ 255) :
    Calls Try.prog 3 #[.slice A n c] w (RetPure w (.bool true)) := by
  have hc1 := h.cap
  have hc2 := h.big
  by_cases hn : 1048576 < n
  · go_enter Try.func3, Try.ntmps3
    go_wp2_with fail
    go_ret
    exact ⟨rfl, Below.refl _ _⟩
  have hB : Below w.heap.size w w := Below.refl _ _
  go_enter Try.func3, Try.ntmps3
  go_wp2_with fail
  refine (drawRingPop_any _ _ _ _ _ _ h (Nat.le_refl _) hb).mono ?_
  rintro e w1 ⟨At, ct, d, hd, tl, rfl, ⟨ot, hdl⟩, ⟨hb1, hb2⟩, b1⟩
  have s1 := b1.size
  replace hB := below_later hB b1 (Nat.le_refl _)
  clear b1
  clear h hb
  have hc3 := ot.cap
  have hc4 := ot.big
  have hn2 := below_new w1 (.cells #[.slice At d.length ct, .int .i64 hd, .int .i64 tl] 25)
  replace ot := ot.below hn2
  replace hB := below_later hB hn2 (Nat.le_refl _)
  clear hn2
  have rt : (w1.alloc (.cells #[.slice At d.length ct, .int .i64 hd, .int .i64 tl] 25)).heap[w1.heap.size]? = some (.cells #[.slice At d.length ct, .int .i64 hd, .int .i64 tl] 25 (0, 0)) := heap_alloc_new _ _
  obtain ⟨mt0, mt1, mt2⟩ := cells3 rt
  have s2 : w1.heap.size < (w1.alloc (.cells #[.slice At d.length ct, .int .i64 hd, .int .i64 tl] 25)).heap.size := by rw [World.size_alloc]; exact Nat.lt_succ_self _
  obtain ⟨i0, hi0, hz0, hz1, hz2⟩ := info_parts int_info
  cases hv : rval ⟨d, hd, tl⟩
  · have HY := Lib.hid (rpop_no ⟨d, hd, tl⟩ hv)
    clear hv
    go_wp2_with fail
    generalize (w1.alloc (.cells #[.slice At d.length ct, .int .i64 hd, .int .i64 tl] 25)) = u2 at *
    have q := implRingPop_any At d.length ct _ d hd tl _ ot.sees (by omega)
    rw [HY.out.1, HY.out.2.1, HY.out.2.2] at q
    unfold popV ringV at q
    simp only [rz, List.length_nil] at q
    refine q.mono ?_
    clear q
    rintro e w3 ⟨Ax, cx, rfl, ox, b3⟩
    have s3 := b3.size
    replace ot := ot.below b3
    replace rt := rowKeep rt b3
    clear mt0 mt1 mt2
    obtain ⟨mt0, mt1, mt2⟩ := cells3 rt
    replace hB := below_later hB b3 (Nat.le_refl _)
    clear b3
    have hn4 := below_new w3 (.cells #[.slice Ax 0 cx, .int .i64 0, .int .i64 0] 25)
    replace ot := ot.below hn4
    replace ox := ox.below hn4
    replace rt := rowKeep rt hn4
    clear mt0 mt1 mt2
    obtain ⟨mt0, mt1, mt2⟩ := cells3 rt
    replace hB := below_later hB hn4 (Nat.le_refl _)
    clear hn4
    have rx : (w3.alloc (.cells #[.slice Ax 0 cx, .int .i64 0, .int .i64 0] 25)).heap[w3.heap.size]? = some (.cells #[.slice Ax 0 cx, .int .i64 0, .int .i64 0] 25 (0, 0)) := heap_alloc_new _ _
    obtain ⟨mx0, mx1, mx2⟩ := cells3 rx
    have s4 : w3.heap.size < (w3.alloc (.cells #[.slice Ax 0 cx, .int .i64 0, .int .i64 0] 25)).heap.size := by rw [World.size_alloc]; exact Nat.lt_succ_self _
    go_wp2_with fail
    generalize (w3.alloc (.cells #[.slice Ax 0 cx, .int .i64 0, .int .i64 0] 25)) = u4 at *
    have q := specRingPop_any At d.length ct _ d hd tl _ ot.sees (by omega)
    rw [HY.out.1, HY.out.2.1, HY.out.2.2] at q
    unfold popV ringV at q
    simp only [rz, List.length_nil] at q
    refine q.mono ?_
    clear q
    rintro e w5 ⟨Ay, cy, rfl, oy, b5⟩
    have s5 := b5.size
    replace ot := ot.below b5
    replace ox := ox.below b5
    replace rt := rowKeep rt b5
    clear mt0 mt1 mt2
    obtain ⟨mt0, mt1, mt2⟩ := cells3 rt
    replace rx := rowKeep rx b5
    clear mx0 mx1 mx2
    obtain ⟨mx0, mx1, mx2⟩ := cells3 rx
    replace hB := below_later hB b5 (Nat.le_refl _)
    clear b5
    have hn6 := below_new w5 (.cells #[.slice Ay 0 cy, .int .i64 0, .int .i64 0] 25)
    replace ot := ot.below hn6
    replace ox := ox.below hn6
    replace oy := oy.below hn6
    replace rt := rowKeep rt hn6
    clear mt0 mt1 mt2
    obtain ⟨mt0, mt1, mt2⟩ := cells3 rt
    replace rx := rowKeep rx hn6
    clear mx0 mx1 mx2
    obtain ⟨mx0, mx1, mx2⟩ := cells3 rx
    replace hB := below_later hB hn6 (Nat.le_refl _)
    clear hn6
    have ry : (w5.alloc (.cells #[.slice Ay 0 cy, .int .i64 0, .int .i64 0] 25)).heap[w5.heap.size]? = some (.cells #[.slice Ay 0 cy, .int .i64 0, .int .i64 0] 25 (0, 0)) := heap_alloc_new _ _
    obtain ⟨my0, my1, my2⟩ := cells3 ry
    have s6 : w5.heap.size < (w5.alloc (.cells #[.slice Ay 0 cy, .int .i64 0, .int .i64 0] 25)).heap.size := by rw [World.size_alloc]; exact Nat.lt_succ_self _
    go_wp2_with fail
    generalize (w5.alloc (.cells #[.slice Ay 0 cy, .int .i64 0, .int .i64 0] 25)) = u6 at *
    refine (sameRing_t _ _ _ _ _ _ _ _ _ _ _ _ ox.sees oy.sees (by omega) (by omega)).mono ?_
    rintro e w7 ⟨rfl, b7⟩
    have s7 := b7.size
    replace ot := ot.below b7
    replace ox := ox.below b7
    replace oy := oy.below b7
    replace rt := rowKeep rt b7
    clear mt0 mt1 mt2
    obtain ⟨mt0, mt1, mt2⟩ := cells3 rt
    replace rx := rowKeep rx b7
    clear mx0 mx1 mx2
    obtain ⟨mx0, mx1, mx2⟩ := cells3 rx
    replace ry := rowKeep ry b7
    clear my0 my1 my2
    obtain ⟨my0, my1, my2⟩ := cells3 ry
    replace hB := below_later hB b7 (Nat.le_refl _)
    clear b7
    go_wp2_with fail
    refine (alive_any _).mono ?_
    rintro e w8 ⟨rfl, b8⟩
    have s8 := b8.size
    replace ot := ot.below b8
    replace ox := ox.below b8
    replace oy := oy.below b8
    replace rt := rowKeep rt b8
    clear mt0 mt1 mt2
    obtain ⟨mt0, mt1, mt2⟩ := cells3 rt
    replace rx := rowKeep rx b8
    clear mx0 mx1 mx2
    obtain ⟨mx0, mx1, mx2⟩ := cells3 rx
    replace ry := rowKeep ry b8
    clear my0 my1 my2
    obtain ⟨my0, my1, my2⟩ := cells3 ry
    replace hB := below_later hB b8 (Nat.le_refl _)
    clear b8
    go_wp2_with fail
    go_ret
    exact ⟨rfl, hB⟩
  · have hv' := (rval_iff _).1 hv
    simp only at hv'
    cases hn2 : rnone ⟨d, hd, tl⟩
    · have hy := rpop_cut _ hv hn2
      have hl1 := rlist_16 (rcut ⟨d, hd, tl⟩)
      have hl0 := rlist_16 ⟨d, hd, tl⟩
      have hcut := rcut_list _ hv hn2
      have hcv := rcut_val _ hv
      have hcf : rfull (rcut ⟨d, hd, tl⟩) = false := by have h1 := rcut_cn _ hv hn2; have h2 := rcn_bd _ hv; unfold rfull; rw [h1]; refine decide_eq_false ?_; show ¬ (_ = (d.length : Int) - 1); simp only at h2; omega
      rw [← rlist_of _ hv, ← rlist_of _ hcv] at hcut
      clear hv hn2
      unfold rcut at hl1 hcut hy hcf hcv
      simp only at hl1 hcut
      generalize hyh : ((hd + 1) % (d.length : Int)) = yh at *
      generalize d.getD hd.toNat 0 = top at *
      have hz := rpush_put _ top hcv hcf
      have hzl := rput_list _ hcv top hcf
      have hzv := rput_val _ hcv top
      have hzd : (rput ⟨d, yh, tl⟩ top).slots.length = d.length := by simp [rput]
      rw [← rlist_of _ hcv, ← rlist_of _ hzv] at hzl
      clear hcv hcf hzv hyh
      generalize rput ⟨d, yh, tl⟩ top = z at *
      obtain ⟨zd, zh, zt⟩ := z
      simp only at hzd
      generalize hL1 : rlist ⟨d, yh, tl⟩ = L1 at *
      generalize hL0 : rlist ⟨d, hd, tl⟩ = L0 at *
      have h1l : 1 ≤ L0.length := by rw [hcut]; simp
      have HAP := Lib.hid (show [] ++ ints L1 ++ [.int .i64 top] = ints (L1 ++ [top]) by simp [ints])
      have hzl2 : (L1 ++ [top]).length ≤ 17 := by simp; omega
      generalize L1 ++ [top] = L2 at *
      have HL0 := Lib.hid hL0
      have HC := Lib.hid hcut
      have HZL := Lib.hid hzl
      have HZ := Lib.hid hz
      have HY := Lib.hid hy
      clear hL1 hL0 hcut hzl hz hy
      replace hzd := Lib.hid hzd
      go_wp2_with fail
      generalize (w1.alloc (.cells #[.slice At d.length ct, .int .i64 hd, .int .i64 tl] 25)) = u2 at *
      have q := implRingPop_any At d.length ct _ d hd tl _ ot.sees (by omega)
      rw [HY.out.1, HY.out.2.1, HY.out.2.2] at q
      unfold popV ringV at q
      refine q.mono ?_
      clear q
      rintro e w3 ⟨Ax, cx, rfl, ox, b3⟩
      have s3 := b3.size
      replace ot := ot.below b3
      replace rt := rowKeep rt b3
      clear mt0 mt1 mt2
      obtain ⟨mt0, mt1, mt2⟩ := cells3 rt
      replace hB := below_later hB b3 (Nat.le_refl _)
      clear b3
      have hn4 := below_new w3 (.cells #[.slice Ax d.length cx, .int .i64 yh, .int .i64 tl] 25)
      replace ot := ot.below hn4
      replace ox := ox.below hn4
      replace rt := rowKeep rt hn4
      clear mt0 mt1 mt2
      obtain ⟨mt0, mt1, mt2⟩ := cells3 rt
      replace hB := below_later hB hn4 (Nat.le_refl _)
      clear hn4
      have rx : (w3.alloc (.cells #[.slice Ax d.length cx, .int .i64 yh, .int .i64 tl] 25)).heap[w3.heap.size]? = some (.cells #[.slice Ax d.length cx, .int .i64 yh, .int .i64 tl] 25 (0, 0)) := heap_alloc_new _ _
      obtain ⟨mx0, mx1, mx2⟩ := cells3 rx
      have s4 : w3.heap.size < (w3.alloc (.cells #[.slice Ax d.length cx, .int .i64 yh, .int .i64 tl] 25)).heap.size := by rw [World.size_alloc]; exact Nat.lt_succ_self _
      go_wp2_with fail
      generalize (w3.alloc (.cells #[.slice Ax d.length cx, .int .i64 yh, .int .i64 tl] 25)) = u4 at *
      have q := specRingPop_any At d.length ct _ d hd tl _ ot.sees (by omega)
      rw [HY.out.1, HY.out.2.1, HY.out.2.2] at q
      unfold popV ringV at q
      refine q.mono ?_
      clear q
      rintro e w5 ⟨Ay, cy, rfl, oy, b5⟩
      have s5 := b5.size
      replace ot := ot.below b5
      replace ox := ox.below b5
      replace rt := rowKeep rt b5
      clear mt0 mt1 mt2
      obtain ⟨mt0, mt1, mt2⟩ := cells3 rt
      replace rx := rowKeep rx b5
      clear mx0 mx1 mx2
      obtain ⟨mx0, mx1, mx2⟩ := cells3 rx
      replace hB := below_later hB b5 (Nat.le_refl _)
      clear b5
      have hn6 := below_new w5 (.cells #[.slice Ay d.length cy, .int .i64 yh, .int .i64 tl] 25)
      replace ot := ot.below hn6
      replace ox := ox.below hn6
      replace oy := oy.below hn6
      replace rt := rowKeep rt hn6
      clear mt0 mt1 mt2
      obtain ⟨mt0, mt1, mt2⟩ := cells3 rt
      replace rx := rowKeep rx hn6
      clear mx0 mx1 mx2
      obtain ⟨mx0, mx1, mx2⟩ := cells3 rx
      replace hB := below_later hB hn6 (Nat.le_refl _)
      clear hn6
      have ry : (w5.alloc (.cells #[.slice Ay d.length cy, .int .i64 yh, .int .i64 tl] 25)).heap[w5.heap.size]? = some (.cells #[.slice Ay d.length cy, .int .i64 yh, .int .i64 tl] 25 (0, 0)) := heap_alloc_new _ _
      obtain ⟨my0, my1, my2⟩ := cells3 ry
      have s6 : w5.heap.size < (w5.alloc (.cells #[.slice Ay d.length cy, .int .i64 yh, .int .i64 tl] 25)).heap.size := by rw [World.size_alloc]; exact Nat.lt_succ_self _
      go_wp2_with fail
      generalize (w5.alloc (.cells #[.slice Ay d.length cy, .int .i64 yh, .int .i64 tl] 25)) = u6 at *
      refine (sameRing_t _ _ _ _ _ _ _ _ _ _ _ _ ox.sees oy.sees (by omega) (by omega)).mono ?_
      rintro e w7 ⟨rfl, b7⟩
      have s7 := b7.size
      replace ot := ot.below b7
      replace ox := ox.below b7
      replace oy := oy.below b7
      replace rt := rowKeep rt b7
      clear mt0 mt1 mt2
      obtain ⟨mt0, mt1, mt2⟩ := cells3 rt
      replace rx := rowKeep rx b7
      clear mx0 mx1 mx2
      obtain ⟨mx0, mx1, mx2⟩ := cells3 rx
      replace ry := rowKeep ry b7
      clear my0 my1 my2
      obtain ⟨my0, my1, my2⟩ := cells3 ry
      replace hB := below_later hB b7 (Nat.le_refl _)
      clear b7
      clear oy
      clear ry my0 my1 my2
      go_wp2_with fail
      have q := implRingPush_any Ax d.length cx _ d yh tl top _ ox.sees (by omega)
      rw [HZ.out.1, HZ.out.2] at q
      unfold pushV ringV at q
      refine q.mono ?_
      clear q
      rintro e w8 ⟨Az, cz, rfl, oz, b8⟩
      have s8 := b8.size
      replace ot := ot.below b8
      replace ox := ox.below b8
      replace rt := rowKeep rt b8
      clear mt0 mt1 mt2
      obtain ⟨mt0, mt1, mt2⟩ := cells3 rt
      replace rx := rowKeep rx b8
      clear mx0 mx1 mx2
      obtain ⟨mx0, mx1, mx2⟩ := cells3 rx
      replace hB := below_later hB b8 (Nat.le_refl _)
      clear b8
      have hn9 := below_new w8 (.cells #[.slice Az zd.length cz, .int .i64 zh, .int .i64 zt] 25)
      replace ot := ot.below hn9
      replace ox := ox.below hn9
      replace oz := oz.below hn9
      replace rt := rowKeep rt hn9
      clear mt0 mt1 mt2
      obtain ⟨mt0, mt1, mt2⟩ := cells3 rt
      replace rx := rowKeep rx hn9
      clear mx0 mx1 mx2
      obtain ⟨mx0, mx1, mx2⟩ := cells3 rx
      replace hB := below_later hB hn9 (Nat.le_refl _)
      clear hn9
      have rz : (w8.alloc (.cells #[.slice Az zd.length cz, .int .i64 zh, .int .i64 zt] 25)).heap[w8.heap.size]? = some (.cells #[.slice Az zd.length cz, .int .i64 zh, .int .i64 zt] 25 (0, 0)) := heap_alloc_new _ _
      obtain ⟨mz0, mz1, mz2⟩ := cells3 rz
      have s9 : w8.heap.size < (w8.alloc (.cells #[.slice Az zd.length cz, .int .i64 zh, .int .i64 zt] 25)).heap.size := by rw [World.size_alloc]; exact Nat.lt_succ_self _
      go_wp2_with fail
      generalize (w8.alloc (.cells #[.slice Az zd.length cz, .int .i64 zh, .int .i64 zt] 25)) = u9 at *
      have q := implRingList_any At d.length ct _ d hd tl _ ot.sees (by omega)
      rw [HL0.out] at q
      refine q.mono ?_
      clear q
      rintro e w10 ⟨Al, cl, rfl, ol, b10⟩
      have s10 := b10.size
      replace ot := ot.below b10
      replace ox := ox.below b10
      replace oz := oz.below b10
      replace rt := rowKeep rt b10
      clear mt0 mt1 mt2
      obtain ⟨mt0, mt1, mt2⟩ := cells3 rt
      replace rx := rowKeep rx b10
      clear mx0 mx1 mx2
      obtain ⟨mx0, mx1, mx2⟩ := cells3 rx
      replace rz := rowKeep rz b10
      clear mz0 mz1 mz2
      obtain ⟨mz0, mz1, mz2⟩ := cells3 rz
      replace hB := below_later hB b10 (Nat.le_refl _)
      clear b10
      have i1 : (1 : Int) ≤ (L0.length : Int) := by omega
      have hlc := ol.cap
      have hlb := ol.big
      have i3 : (1 : Int) ≤ (cl : Int) := by omega
      have i4 : (L0.length : Int) ≤ (cl : Int) := by omega
      have i5 : (0 : Int) < (L0.length : Int) := by omega
      have i6 : 0 < L0.length := by omega
      go_wp2_with fail
      have HD := Lib.hid (show ints (L0.drop 1) = ints L1 by rw [HC.out]; rfl)
      by_cases hcm : cl = 1
      · subst hcm
        have hn11 : Below w10.heap.size w10 w10.drew := below_drewN (Below.refl _ _) 1
        have s11 : w10.heap.size ≤ w10.drew.heap.size := Nat.le_refl _
        replace ot := ot.below hn11
        replace ox := ox.below hn11
        replace oz := oz.below hn11
        replace ol := ol.below hn11
        replace rt := rowKeep rt hn11
        clear mt0 mt1 mt2
        obtain ⟨mt0, mt1, mt2⟩ := cells3 rt
        replace rx := rowKeep rx hn11
        clear mx0 mx1 mx2
        obtain ⟨mx0, mx1, mx2⟩ := cells3 rx
        replace rz := rowKeep rz hn11
        clear mz0 mz1 mz2
        obtain ⟨mz0, mz1, mz2⟩ := cells3 rz
        replace hB := below_later hB hn11 (Nat.le_refl _)
        clear hn11
        refine wp_region_noPanic ?_
        refine wp_region_held_drew (S := fun w' => w'.cell? ⟨w8.heap.size, 0, none⟩ = some (.slice Az zd.length cz) ∧ w'.cell? ⟨w8.heap.size, 1, none⟩ = some (.int .i64 zh) ∧ w'.cell? ⟨w8.heap.size, 2, none⟩ = some (.int .i64 zt)) (by kernel_rfl) ⟨mz0, mz1, mz2⟩ (fun hHeld => ?_)
        generalize w10.drew = u11 at *
        refine wpAnyH_take (i := 0) (v := ?_) rfl (by kernel_rfl) (by kernel_rfl) (by kernel_rfl) (fun _ _ _ h => h) (Or.inl ⟨by rfl, ?_⟩) (by assumption) ?_
        rotate_left
        · (intro wz hSw; (try dsimp only at hSw); go_simp; try with_reducible rfl)
        simp only [Act.put, List.getElem_toArray, List.getElem_cons_zero, List.getElem_cons_succ, List.setIfInBounds_toArray, List.set_cons_zero, List.set_cons_succ]
        refine wpAnyH_take (i := 1) (v := ?_) rfl (by kernel_rfl) (by kernel_rfl) (by kernel_rfl) (fun _ _ _ h => h) (Or.inl ⟨by rfl, ?_⟩) (by assumption) ?_
        rotate_left
        · (intro wz hSw; (try dsimp only at hSw); go_simp; try with_reducible rfl)
        simp only [Act.put, List.getElem_toArray, List.getElem_cons_zero, List.getElem_cons_succ, List.setIfInBounds_toArray, List.set_cons_zero, List.set_cons_succ]
        refine wpAnyH_take (i := 2) (v := ?_) rfl (by kernel_rfl) (by kernel_rfl) (by kernel_rfl) (fun _ _ _ h => h) (Or.inl ⟨by rfl, ?_⟩) (by assumption) ?_
        rotate_left
        · (intro wz hSw; (try dsimp only at hSw); go_simp; try with_reducible rfl)
        simp only [Act.put, List.getElem_toArray, List.getElem_cons_zero, List.getElem_cons_succ, List.setIfInBounds_toArray, List.set_cons_zero, List.set_cons_succ]
        refine wpAnyH_take (i := 3) (v := ?_) rfl (by kernel_rfl) (by kernel_rfl) (by kernel_rfl) (fun _ _ _ h => h) (Or.inl ⟨by rfl, ?_⟩) (by assumption) ?_
        rotate_left
        · (intro wz hSw; (try dsimp only at hSw); go_simp; try with_reducible rfl)
        simp only [Act.put, List.getElem_toArray, List.getElem_cons_zero, List.getElem_cons_succ, List.setIfInBounds_toArray, List.set_cons_zero, List.set_cons_succ]
        refine wpAnyH_take (i := 4) (v := ?_) rfl (by kernel_rfl) (by kernel_rfl) (by kernel_rfl) (fun _ _ _ h => h) (Or.inl ⟨by rfl, ?_⟩) (by assumption) ?_
        rotate_left
        · (intro wz hSw; (try dsimp only at hSw); go_simp; try with_reducible rfl)
        simp only [Act.put, List.getElem_toArray, List.getElem_cons_zero, List.getElem_cons_succ, List.setIfInBounds_toArray, List.set_cons_zero, List.set_cons_succ]
        refine wpAnyH_take (i := 5) (v := ?_) rfl (by kernel_rfl) (by kernel_rfl) (by kernel_rfl) (fun _ _ _ h => h) (Or.inl ⟨by rfl, ?_⟩) (by assumption) ?_
        rotate_left
        · (intro wz hSw; (try dsimp only at hSw); go_simp; try with_reducible rfl)
        simp only [Act.put, List.getElem_toArray, List.getElem_cons_zero, List.getElem_cons_succ, List.setIfInBounds_toArray, List.set_cons_zero, List.set_cons_succ]
        refine wpAnyH_take (i := 6) (v := ?_) rfl (by kernel_rfl) (by kernel_rfl) (by kernel_rfl) (fun _ _ _ h => h) (Or.inl ⟨by rfl, ?_⟩) (by assumption) ?_
        rotate_left
        · (intro wz hSw; (try dsimp only at hSw); go_simp; try with_reducible rfl)
        simp only [Act.put, List.getElem_toArray, List.getElem_cons_zero, List.getElem_cons_succ, List.setIfInBounds_toArray, List.set_cons_zero, List.set_cons_succ]
        refine wpAnyH_take (i := 7) (v := ?_) rfl (by kernel_rfl) (by kernel_rfl) (by kernel_rfl) (fun _ _ _ h => h) (Or.inl ⟨by rfl, ?_⟩) (by assumption) ?_
        rotate_left
        · (intro wz hSw; (try dsimp only at hSw); go_simp; try with_reducible rfl)
        simp only [Act.put, List.getElem_toArray, List.getElem_cons_zero, List.getElem_cons_succ, List.setIfInBounds_toArray, List.set_cons_zero, List.set_cons_succ]
        refine wpAnyH_take (i := 10) (v := ?_) rfl (by kernel_rfl) (by kernel_rfl) (by kernel_rfl) (fun _ _ _ h => h) (Or.inl ⟨by rfl, ?_⟩) (by assumption) ?_
        rotate_left
        · (intro wz hSw; (try dsimp only at hSw); go_simp; try with_reducible rfl)
        simp only [Act.put, List.getElem_toArray, List.getElem_cons_zero, List.getElem_cons_succ, List.setIfInBounds_toArray, List.set_cons_zero, List.set_cons_succ]
        refine wpAnyH_take (i := 11) (v := ?_) rfl (by kernel_rfl) (by kernel_rfl) (by kernel_rfl) (fun _ _ _ h => h) (Or.inl ⟨by rfl, ?_⟩) (by assumption) ?_
        rotate_left
        · (intro wz hSw; (try dsimp only at hSw); go_simp; try with_reducible rfl)
        simp only [Act.put, List.getElem_toArray, List.getElem_cons_zero, List.getElem_cons_succ, List.setIfInBounds_toArray, List.set_cons_zero, List.set_cons_succ]
        refine wpAnyH_take (i := 13) (v := ?_) rfl (by kernel_rfl) (by kernel_rfl) (by kernel_rfl) (fun _ _ _ h => h) (Or.inl ⟨by rfl, ?_⟩) (by assumption) ?_
        rotate_left
        · (intro wz hSw; (try dsimp only at hSw); go_simp; try with_reducible rfl)
        simp only [Act.put, List.getElem_toArray, List.getElem_cons_zero, List.getElem_cons_succ, List.setIfInBounds_toArray, List.set_cons_zero, List.set_cons_succ]
        refine wpAnyH_ready (rs := [8, 9, 14]) (by kernel_rfl) (by simp) ?_
        refine AllReadyH.cons rfl (fun K hK => ?_) ?_
        · go_simp
          have q := implRingList_any Az zd.length cz _ zd zh zt _ oz.sees (by omega)
          rw [HZL.out] at q
          refine q.mono ?_
          clear q
          rintro e w12 ⟨Am, cm, rfl, om, b12⟩
          have s12 := b12.size
          replace ot := ot.below b12
          replace ox := ox.below b12
          replace oz := oz.below b12
          replace ol := ol.below b12
          replace rt := rowKeep rt b12
          clear mt0 mt1 mt2
          obtain ⟨mt0, mt1, mt2⟩ := cells3 rt
          replace rx := rowKeep rx b12
          clear mx0 mx1 mx2
          obtain ⟨mx0, mx1, mx2⟩ := cells3 rx
          replace rz := rowKeep rz b12
          clear mz0 mz1 mz2
          obtain ⟨mz0, mz1, mz2⟩ := cells3 rz
          replace hB := below_later hB b12 (Nat.le_refl _)
          clear b12
          refine hK.out _ _ ⟨mz0, mz1, mz2⟩ (fun hHeld => ?_)
          clear hK K
          try simp only [Act.put, List.getElem_toArray, List.getElem_cons_zero, List.getElem_cons_succ, List.setIfInBounds_toArray, List.set_cons_zero, List.set_cons_succ]
          refine wpAnyH_ready (rs := [9, 14]) (by kernel_rfl) (by simp) ?_
          refine AllReadyH.cons rfl (fun K hK => ?_) ?_
          · go_simp
            have hn13 := below_new w12 (.cells #[] 3)
            have oe := newEmpty w12 3 1
            replace ot := ot.below hn13
            replace ox := ox.below hn13
            replace oz := oz.below hn13
            replace ol := ol.below hn13
            replace om := om.below hn13
            replace rt := rowKeep rt hn13
            clear mt0 mt1 mt2
            obtain ⟨mt0, mt1, mt2⟩ := cells3 rt
            replace rx := rowKeep rx hn13
            clear mx0 mx1 mx2
            obtain ⟨mx0, mx1, mx2⟩ := cells3 rx
            replace rz := rowKeep rz hn13
            clear mz0 mz1 mz2
            obtain ⟨mz0, mz1, mz2⟩ := cells3 rz
            replace hB := below_later hB hn13 (Nat.le_refl _)
            clear hn13
            have s13 : w12.heap.size + 1 ≤ (w12.alloc (.cells #[] 3)).heap.size := by rw [World.size_alloc]; exact Nat.le_refl _
            generalize (w12.alloc (.cells #[] 3)) = u13 at *
            refine hK.out _ _ ⟨mz0, mz1, mz2⟩ (fun hHeld => ?_)
            clear hK K
            try simp only [Act.put, List.getElem_toArray, List.getElem_cons_zero, List.getElem_cons_succ, List.setIfInBounds_toArray, List.set_cons_zero, List.set_cons_succ]
            refine wpAnyH_ready (rs := [12, 14]) (by kernel_rfl) (by simp) ?_
            refine AllReadyH.cons rfl (fun K hK => ?_) ?_
            · rw [if_pos (by rfl)]
              refine wp_app2 _ (.tmp 59) (.tmp 61) _ (by rfl) 3 i0 (.int .i64 0) 1 8 Try.underlying23 hi0 hz0 hz1 hz2 rfl (by decide) _ _ _ _ _ _ (by rfl) oe _ _ _ _ _ (by rfl) ((show Sees _ _ 1 Al 0 0 (ints (L0.drop 1)) by have q := ol.sees.tail 1 (by omega) Al (fun h => absurd rfl h); rwa [show L0.length - 1 = 0 from by omega] at q)) (ints_one _) (by omega) (by omega) (by omega) ?_
              intro Ap cp w14 l14 h14 op d14 f14
              have s14 := f14.size
              rw [HD.out] at op
              replace ot := ot.fr f14 (by omega)
              replace ox := ox.fr f14 (by omega)
              replace oz := oz.fr f14 (by omega)
              replace ol := ol.fr f14 (by omega)
              replace om := om.fr f14 (by omega)
              replace rt := rowFr rt f14 (by omega)
              clear mt0 mt1 mt2
              obtain ⟨mt0, mt1, mt2⟩ := cells3 rt
              replace rx := rowFr rx f14 (by omega)
              clear mx0 mx1 mx2
              obtain ⟨mx0, mx1, mx2⟩ := cells3 rx
              replace rz := rowFr rz f14 (by omega)
              clear mz0 mz1 mz2
              obtain ⟨mz0, mz1, mz2⟩ := cells3 rz
              replace hB := f14.below hB (by omega) (Nat.le_refl _)
              clear f14 oe
              generalize hnp : 0 + 0 = np at *
              have hnq : np ≤ 17 := by omega
              clear hnp
              refine hK.out _ _ ⟨mz0, mz1, mz2⟩ (fun hHeld => ?_)
              clear hK K
              try simp only [Act.put, List.getElem_toArray, List.getElem_cons_zero, List.getElem_cons_succ, List.setIfInBounds_toArray, List.set_cons_zero, List.set_cons_succ]
              refine wpAnyH_ready (rs := [14]) (by kernel_rfl) (by simp) ?_
              refine AllReadyH.cons rfl (fun K hK => ?_) ?_
              · go_simp
                have hn15 := below_new w14 (.cells #[.int .i64 top] 3)
                have oq := newOne w14 3 (.int .i64 top)
                replace ot := ot.below hn15
                replace ox := ox.below hn15
                replace oz := oz.below hn15
                replace ol := ol.below hn15
                replace om := om.below hn15
                replace op := op.below hn15
                replace rt := rowKeep rt hn15
                clear mt0 mt1 mt2
                obtain ⟨mt0, mt1, mt2⟩ := cells3 rt
                replace rx := rowKeep rx hn15
                clear mx0 mx1 mx2
                obtain ⟨mx0, mx1, mx2⟩ := cells3 rx
                replace rz := rowKeep rz hn15
                clear mz0 mz1 mz2
                obtain ⟨mz0, mz1, mz2⟩ := cells3 rz
                replace hB := below_later hB hn15 (Nat.le_refl _)
                clear hn15
                have s15 : w14.heap.size + 1 ≤ (w14.alloc (.cells #[.int .i64 top] 3)).heap.size := by rw [World.size_alloc]; exact Nat.le_refl _
                generalize (w14.alloc (.cells #[.int .i64 top] 3)) = u15 at *
                refine hK.out _ _ ⟨mz0, mz1, mz2⟩ (fun hHeld => ?_)
                clear hK K
                try simp only [Act.put, List.getElem_toArray, List.getElem_cons_zero, List.getElem_cons_succ, List.setIfInBounds_toArray, List.set_cons_zero, List.set_cons_succ]
                refine wpAnyH_ready (rs := [15]) (by kernel_rfl) (by simp) ?_
                refine AllReadyH.cons rfl (fun K hK => ?_) ?_
                · rw [if_pos (by rfl)]
                  refine wp_app _ (.tmp 62) (.tmp 64) _ (by rfl) 3 i0 (.int .i64 0) 1 8 Try.underlying23 hi0 hz0 hz1 hz2 rfl (by decide) _ _ _ _ _ _ (by rfl) op _ _ _ _ _ (by rfl) (oq.sees) (one_int _) (by omega) (by omega) (by omega) ?_
                  intro As cs w16 os f16
                  have s16 := f16.size
                  rw [HAP.out] at os
                  replace ot := ot.fr f16 (by omega)
                  replace ox := ox.fr f16 (by omega)
                  replace oz := oz.fr f16 (by omega)
                  replace ol := ol.fr f16 (by omega)
                  replace om := om.fr f16 (by omega)
                  replace oq := oq.fr f16 (by omega)
                  replace rt := rowFr rt f16 (by omega)
                  clear mt0 mt1 mt2
                  obtain ⟨mt0, mt1, mt2⟩ := cells3 rt
                  replace rx := rowFr rx f16 (by omega)
                  clear mx0 mx1 mx2
                  obtain ⟨mx0, mx1, mx2⟩ := cells3 rx
                  replace rz := rowFr rz f16 (by omega)
                  clear mz0 mz1 mz2
                  obtain ⟨mz0, mz1, mz2⟩ := cells3 rz
                  replace hB := f16.below hB (by omega) (Nat.le_refl _)
                  clear f16 op
                  refine hK.out _ _ ⟨mz0, mz1, mz2⟩ (fun hHeld => ?_)
                  clear hK K
                  try simp only [Act.put, List.getElem_toArray, List.getElem_cons_zero, List.getElem_cons_succ, List.setIfInBounds_toArray, List.set_cons_zero, List.set_cons_succ]
                  refine wpAnyH_ready (rs := [16]) (by kernel_rfl) (by simp) ?_
                  refine AllReadyH.cons rfl (fun K hK => ?_) ?_
                  · go_simp
                    refine (sameInts_t _ _ _ _ _ _ _ _ L2 _ om.sees os.sees).mono ?_
                    rintro e w17 ⟨rfl, b17⟩
                    have s17 := b17.size
                    replace ot := ot.below b17
                    replace ox := ox.below b17
                    replace oz := oz.below b17
                    replace ol := ol.below b17
                    replace om := om.below b17
                    replace oq := oq.below b17
                    replace os := os.below b17
                    replace rt := rowKeep rt b17
                    clear mt0 mt1 mt2
                    obtain ⟨mt0, mt1, mt2⟩ := cells3 rt
                    replace rx := rowKeep rx b17
                    clear mx0 mx1 mx2
                    obtain ⟨mx0, mx1, mx2⟩ := cells3 rx
                    replace rz := rowKeep rz b17
                    clear mz0 mz1 mz2
                    obtain ⟨mz0, mz1, mz2⟩ := cells3 rz
                    replace hB := below_later hB b17 (Nat.le_refl _)
                    clear b17
                    refine hK.out _ _ ⟨mz0, mz1, mz2⟩ (fun hHeld => ?_)
                    clear hK K
                    try simp only [Act.put, List.getElem_toArray, List.getElem_cons_zero, List.getElem_cons_succ, List.setIfInBounds_toArray, List.set_cons_zero, List.set_cons_succ]
                    refine wpAnyH_take (i := 17) (v := ?_) rfl (by kernel_rfl) (by kernel_rfl) (by kernel_rfl) (fun _ _ _ h => h) (Or.inl ⟨by rfl, ?_⟩) (by assumption) ?_
                    rotate_left
                    · (intro wz hSw; (try dsimp only at hSw); go_simp; try with_reducible rfl)
                    simp only [Act.put, List.getElem_toArray, List.getElem_cons_zero, List.getElem_cons_succ, List.setIfInBounds_toArray, List.set_cons_zero, List.set_cons_succ]
                    refine wpAnyH_take (i := 18) (v := ?_) rfl (by kernel_rfl) (by kernel_rfl) (by kernel_rfl) (fun _ _ _ h => h) (Or.inl ⟨by rfl, ?_⟩) (by assumption) ?_
                    rotate_left
                    · (intro wz hSw; (try dsimp only at hSw); go_simp; try with_reducible rfl)
                    simp only [Act.put, List.getElem_toArray, List.getElem_cons_zero, List.getElem_cons_succ, List.setIfInBounds_toArray, List.set_cons_zero, List.set_cons_succ]
                    refine wpAnyH_done (by kernel_rfl) ?_ _
                    refine NoPanic.normal ?_
                    go_wp2_with fail
                    go_ret
                    exact ⟨rfl, hB⟩
                  exact AllReadyH.nil
                exact AllReadyH.nil
              exact AllReadyH.nil
            refine AllReadyH.cons rfl (fun K hK => ?_) ?_
            · go_simp
              have hn14 := below_new u13 (.cells #[.int .i64 top] 3)
              have oq := newOne u13 3 (.int .i64 top)
              replace ot := ot.below hn14
              replace ox := ox.below hn14
              replace oz := oz.below hn14
              replace ol := ol.below hn14
              replace om := om.below hn14
              replace oe := oe.below hn14
              replace rt := rowKeep rt hn14
              clear mt0 mt1 mt2
              obtain ⟨mt0, mt1, mt2⟩ := cells3 rt
              replace rx := rowKeep rx hn14
              clear mx0 mx1 mx2
              obtain ⟨mx0, mx1, mx2⟩ := cells3 rx
              replace rz := rowKeep rz hn14
              clear mz0 mz1 mz2
              obtain ⟨mz0, mz1, mz2⟩ := cells3 rz
              replace hB := below_later hB hn14 (Nat.le_refl _)
              clear hn14
              have s14 : u13.heap.size + 1 ≤ (u13.alloc (.cells #[.int .i64 top] 3)).heap.size := by rw [World.size_alloc]; exact Nat.le_refl _
              generalize (u13.alloc (.cells #[.int .i64 top] 3)) = u14 at *
              refine hK.out _ _ ⟨mz0, mz1, mz2⟩ (fun hHeld => ?_)
              clear hK K
              try simp only [Act.put, List.getElem_toArray, List.getElem_cons_zero, List.getElem_cons_succ, List.setIfInBounds_toArray, List.set_cons_zero, List.set_cons_succ]
              refine wpAnyH_ready (rs := [12]) (by kernel_rfl) (by simp) ?_
              refine AllReadyH.cons rfl (fun K hK => ?_) ?_
              · rw [if_pos (by rfl)]
                refine wp_app2 _ (.tmp 59) (.tmp 61) _ (by rfl) 3 i0 (.int .i64 0) 1 8 Try.underlying23 hi0 hz0 hz1 hz2 rfl (by decide) _ _ _ _ _ _ (by rfl) oe _ _ _ _ _ (by rfl) ((show Sees _ _ 1 Al 0 0 (ints (L0.drop 1)) by have q := ol.sees.tail 1 (by omega) Al (fun h => absurd rfl h); rwa [show L0.length - 1 = 0 from by omega] at q)) (ints_one _) (by omega) (by omega) (by omega) ?_
                intro Ap cp w15 l15 h15 op d15 f15
                have s15 := f15.size
                rw [HD.out] at op
                replace ot := ot.fr f15 (by omega)
                replace ox := ox.fr f15 (by omega)
                replace oz := oz.fr f15 (by omega)
                replace ol := ol.fr f15 (by omega)
                replace om := om.fr f15 (by omega)
                replace oq := oq.fr f15 (by omega)
                replace rt := rowFr rt f15 (by omega)
                clear mt0 mt1 mt2
                obtain ⟨mt0, mt1, mt2⟩ := cells3 rt
                replace rx := rowFr rx f15 (by omega)
                clear mx0 mx1 mx2
                obtain ⟨mx0, mx1, mx2⟩ := cells3 rx
                replace rz := rowFr rz f15 (by omega)
                clear mz0 mz1 mz2
                obtain ⟨mz0, mz1, mz2⟩ := cells3 rz
                replace hB := f15.below hB (by omega) (Nat.le_refl _)
                clear f15 oe
                generalize hnp : 0 + 0 = np at *
                have hnq : np ≤ 17 := by omega
                clear hnp
                refine hK.out _ _ ⟨mz0, mz1, mz2⟩ (fun hHeld => ?_)
                clear hK K
                try simp only [Act.put, List.getElem_toArray, List.getElem_cons_zero, List.getElem_cons_succ, List.setIfInBounds_toArray, List.set_cons_zero, List.set_cons_succ]
                refine wpAnyH_ready (rs := [15]) (by kernel_rfl) (by simp) ?_
                refine AllReadyH.cons rfl (fun K hK => ?_) ?_
                · rw [if_pos (by rfl)]
                  refine wp_app _ (.tmp 62) (.tmp 64) _ (by rfl) 3 i0 (.int .i64 0) 1 8 Try.underlying23 hi0 hz0 hz1 hz2 rfl (by decide) _ _ _ _ _ _ (by rfl) op _ _ _ _ _ (by rfl) (oq.sees) (one_int _) (by omega) (by omega) (by omega) ?_
                  intro As cs w16 os f16
                  have s16 := f16.size
                  rw [HAP.out] at os
                  replace ot := ot.fr f16 (by omega)
                  replace ox := ox.fr f16 (by omega)
                  replace oz := oz.fr f16 (by omega)
                  replace ol := ol.fr f16 (by omega)
                  replace om := om.fr f16 (by omega)
                  replace oq := oq.fr f16 (by omega)
                  replace rt := rowFr rt f16 (by omega)
                  clear mt0 mt1 mt2
                  obtain ⟨mt0, mt1, mt2⟩ := cells3 rt
                  replace rx := rowFr rx f16 (by omega)
                  clear mx0 mx1 mx2
                  obtain ⟨mx0, mx1, mx2⟩ := cells3 rx
                  replace rz := rowFr rz f16 (by omega)
                  clear mz0 mz1 mz2
                  obtain ⟨mz0, mz1, mz2⟩ := cells3 rz
                  replace hB := f16.below hB (by omega) (Nat.le_refl _)
                  clear f16 op
                  refine hK.out _ _ ⟨mz0, mz1, mz2⟩ (fun hHeld => ?_)
                  clear hK K
                  try simp only [Act.put, List.getElem_toArray, List.getElem_cons_zero, List.getElem_cons_succ, List.setIfInBounds_toArray, List.set_cons_zero, List.set_cons_succ]
                  refine wpAnyH_ready (rs := [16]) (by kernel_rfl) (by simp) ?_
                  refine AllReadyH.cons rfl (fun K hK => ?_) ?_
                  · go_simp
                    refine (sameInts_t _ _ _ _ _ _ _ _ L2 _ om.sees os.sees).mono ?_
                    rintro e w17 ⟨rfl, b17⟩
                    have s17 := b17.size
                    replace ot := ot.below b17
                    replace ox := ox.below b17
                    replace oz := oz.below b17
                    replace ol := ol.below b17
                    replace om := om.below b17
                    replace oq := oq.below b17
                    replace os := os.below b17
                    replace rt := rowKeep rt b17
                    clear mt0 mt1 mt2
                    obtain ⟨mt0, mt1, mt2⟩ := cells3 rt
                    replace rx := rowKeep rx b17
                    clear mx0 mx1 mx2
                    obtain ⟨mx0, mx1, mx2⟩ := cells3 rx
                    replace rz := rowKeep rz b17
                    clear mz0 mz1 mz2
                    obtain ⟨mz0, mz1, mz2⟩ := cells3 rz
                    replace hB := below_later hB b17 (Nat.le_refl _)
                    clear b17
                    refine hK.out _ _ ⟨mz0, mz1, mz2⟩ (fun hHeld => ?_)
                    clear hK K
                    try simp only [Act.put, List.getElem_toArray, List.getElem_cons_zero, List.getElem_cons_succ, List.setIfInBounds_toArray, List.set_cons_zero, List.set_cons_succ]
                    refine wpAnyH_take (i := 17) (v := ?_) rfl (by kernel_rfl) (by kernel_rfl) (by kernel_rfl) (fun _ _ _ h => h) (Or.inl ⟨by rfl, ?_⟩) (by assumption) ?_
                    rotate_left
                    · (intro wz hSw; (try dsimp only at hSw); go_simp; try with_reducible rfl)
                    simp only [Act.put, List.getElem_toArray, List.getElem_cons_zero, List.getElem_cons_succ, List.setIfInBounds_toArray, List.set_cons_zero, List.set_cons_succ]
                    refine wpAnyH_take (i := 18) (v := ?_) rfl (by kernel_rfl) (by kernel_rfl) (by kernel_rfl) (fun _ _ _ h => h) (Or.inl ⟨by rfl, ?_⟩) (by assumption) ?_
                    rotate_left
                    · (intro wz hSw; (try dsimp only at hSw); go_simp; try with_reducible rfl)
                    simp only [Act.put, List.getElem_toArray, List.getElem_cons_zero, List.getElem_cons_succ, List.setIfInBounds_toArray, List.set_cons_zero, List.set_cons_succ]
                    refine wpAnyH_done (by kernel_rfl) ?_ _
                    refine NoPanic.normal ?_
                    go_wp2_with fail
                    go_ret
                    exact ⟨rfl, hB⟩
                  exact AllReadyH.nil
                exact AllReadyH.nil
              exact AllReadyH.nil
            exact AllReadyH.nil
          refine AllReadyH.cons rfl (fun K hK => ?_) ?_
          · go_simp
            have hn13 := below_new w12 (.cells #[.int .i64 top] 3)
            have oq := newOne w12 3 (.int .i64 top)
            replace ot := ot.below hn13
            replace ox := ox.below hn13
            replace oz := oz.below hn13
            replace ol := ol.below hn13
            replace om := om.below hn13
            replace rt := rowKeep rt hn13
            clear mt0 mt1 mt2
            obtain ⟨mt0, mt1, mt2⟩ := cells3 rt
            replace rx := rowKeep rx hn13
            clear mx0 mx1 mx2
            obtain ⟨mx0, mx1, mx2⟩ := cells3 rx
            replace rz := rowKeep rz hn13
            clear mz0 mz1 mz2
            obtain ⟨mz0, mz1, mz2⟩ := cells3 rz
            replace hB := below_later hB hn13 (Nat.le_refl _)
            clear hn13
            have s13 : w12.heap.size + 1 ≤ (w12.alloc (.cells #[.int .i64 top] 3)).heap.size := by rw [World.size_alloc]; exact Nat.le_refl _
            generalize (w12.alloc (.cells #[.int .i64 top] 3)) = u13 at *
            refine hK.out _ _ ⟨mz0, mz1, mz2⟩ (fun hHeld => ?_)
            clear hK K
            try simp only [Act.put, List.getElem_toArray, List.getElem_cons_zero, List.getElem_cons_succ, List.setIfInBounds_toArray, List.set_cons_zero, List.set_cons_succ]
            refine wpAnyH_ready (rs := [9]) (by kernel_rfl) (by simp) ?_
            refine AllReadyH.cons rfl (fun K hK => ?_) ?_
            · go_simp
              have hn14 := below_new u13 (.cells #[] 3)
              have oe := newEmpty u13 3 1
              replace ot := ot.below hn14
              replace ox := ox.below hn14
              replace oz := oz.below hn14
              replace ol := ol.below hn14
              replace om := om.below hn14
              replace oq := oq.below hn14
              replace rt := rowKeep rt hn14
              clear mt0 mt1 mt2
              obtain ⟨mt0, mt1, mt2⟩ := cells3 rt
              replace rx := rowKeep rx hn14
              clear mx0 mx1 mx2
              obtain ⟨mx0, mx1, mx2⟩ := cells3 rx
              replace rz := rowKeep rz hn14
              clear mz0 mz1 mz2
              obtain ⟨mz0, mz1, mz2⟩ := cells3 rz
              replace hB := below_later hB hn14 (Nat.le_refl _)
              clear hn14
              have s14 : u13.heap.size + 1 ≤ (u13.alloc (.cells #[] 3)).heap.size := by rw [World.size_alloc]; exact Nat.le_refl _
              generalize (u13.alloc (.cells #[] 3)) = u14 at *
              refine hK.out _ _ ⟨mz0, mz1, mz2⟩ (fun hHeld => ?_)
              clear hK K
              try simp only [Act.put, List.getElem_toArray, List.getElem_cons_zero, List.getElem_cons_succ, List.setIfInBounds_toArray, List.set_cons_zero, List.set_cons_succ]
              refine wpAnyH_ready (rs := [12]) (by kernel_rfl) (by simp) ?_
              refine AllReadyH.cons rfl (fun K hK => ?_) ?_
              · rw [if_pos (by rfl)]
                refine wp_app2 _ (.tmp 59) (.tmp 61) _ (by rfl) 3 i0 (.int .i64 0) 1 8 Try.underlying23 hi0 hz0 hz1 hz2 rfl (by decide) _ _ _ _ _ _ (by rfl) oe _ _ _ _ _ (by rfl) ((show Sees _ _ 1 Al 0 0 (ints (L0.drop 1)) by have q := ol.sees.tail 1 (by omega) Al (fun h => absurd rfl h); rwa [show L0.length - 1 = 0 from by omega] at q)) (ints_one _) (by omega) (by omega) (by omega) ?_
                intro Ap cp w15 l15 h15 op d15 f15
                have s15 := f15.size
                rw [HD.out] at op
                replace ot := ot.fr f15 (by omega)
                replace ox := ox.fr f15 (by omega)
                replace oz := oz.fr f15 (by omega)
                replace ol := ol.fr f15 (by omega)
                replace om := om.fr f15 (by omega)
                replace oq := oq.fr f15 (by omega)
                replace rt := rowFr rt f15 (by omega)
                clear mt0 mt1 mt2
                obtain ⟨mt0, mt1, mt2⟩ := cells3 rt
                replace rx := rowFr rx f15 (by omega)
                clear mx0 mx1 mx2
                obtain ⟨mx0, mx1, mx2⟩ := cells3 rx
                replace rz := rowFr rz f15 (by omega)
                clear mz0 mz1 mz2
                obtain ⟨mz0, mz1, mz2⟩ := cells3 rz
                replace hB := f15.below hB (by omega) (Nat.le_refl _)
                clear f15 oe
                generalize hnp : 0 + 0 = np at *
                have hnq : np ≤ 17 := by omega
                clear hnp
                refine hK.out _ _ ⟨mz0, mz1, mz2⟩ (fun hHeld => ?_)
                clear hK K
                try simp only [Act.put, List.getElem_toArray, List.getElem_cons_zero, List.getElem_cons_succ, List.setIfInBounds_toArray, List.set_cons_zero, List.set_cons_succ]
                refine wpAnyH_ready (rs := [15]) (by kernel_rfl) (by simp) ?_
                refine AllReadyH.cons rfl (fun K hK => ?_) ?_
                · rw [if_pos (by rfl)]
                  refine wp_app _ (.tmp 62) (.tmp 64) _ (by rfl) 3 i0 (.int .i64 0) 1 8 Try.underlying23 hi0 hz0 hz1 hz2 rfl (by decide) _ _ _ _ _ _ (by rfl) op _ _ _ _ _ (by rfl) (oq.sees) (one_int _) (by omega) (by omega) (by omega) ?_
                  intro As cs w16 os f16
                  have s16 := f16.size
                  rw [HAP.out] at os
                  replace ot := ot.fr f16 (by omega)
                  replace ox := ox.fr f16 (by omega)
                  replace oz := oz.fr f16 (by omega)
                  replace ol := ol.fr f16 (by omega)
                  replace om := om.fr f16 (by omega)
                  replace oq := oq.fr f16 (by omega)
                  replace rt := rowFr rt f16 (by omega)
                  clear mt0 mt1 mt2
                  obtain ⟨mt0, mt1, mt2⟩ := cells3 rt
                  replace rx := rowFr rx f16 (by omega)
                  clear mx0 mx1 mx2
                  obtain ⟨mx0, mx1, mx2⟩ := cells3 rx
                  replace rz := rowFr rz f16 (by omega)
                  clear mz0 mz1 mz2
                  obtain ⟨mz0, mz1, mz2⟩ := cells3 rz
                  replace hB := f16.below hB (by omega) (Nat.le_refl _)
                  clear f16 op
                  refine hK.out _ _ ⟨mz0, mz1, mz2⟩ (fun hHeld => ?_)
                  clear hK K
                  try simp only [Act.put, List.getElem_toArray, List.getElem_cons_zero, List.getElem_cons_succ, List.setIfInBounds_toArray, List.set_cons_zero, List.set_cons_succ]
                  refine wpAnyH_ready (rs := [16]) (by kernel_rfl) (by simp) ?_
                  refine AllReadyH.cons rfl (fun K hK => ?_) ?_
                  · go_simp
                    refine (sameInts_t _ _ _ _ _ _ _ _ L2 _ om.sees os.sees).mono ?_
                    rintro e w17 ⟨rfl, b17⟩
                    have s17 := b17.size
                    replace ot := ot.below b17
                    replace ox := ox.below b17
                    replace oz := oz.below b17
                    replace ol := ol.below b17
                    replace om := om.below b17
                    replace oq := oq.below b17
                    replace os := os.below b17
                    replace rt := rowKeep rt b17
                    clear mt0 mt1 mt2
                    obtain ⟨mt0, mt1, mt2⟩ := cells3 rt
                    replace rx := rowKeep rx b17
                    clear mx0 mx1 mx2
                    obtain ⟨mx0, mx1, mx2⟩ := cells3 rx
                    replace rz := rowKeep rz b17
                    clear mz0 mz1 mz2
                    obtain ⟨mz0, mz1, mz2⟩ := cells3 rz
                    replace hB := below_later hB b17 (Nat.le_refl _)
                    clear b17
                    refine hK.out _ _ ⟨mz0, mz1, mz2⟩ (fun hHeld => ?_)
                    clear hK K
                    try simp only [Act.put, List.getElem_toArray, List.getElem_cons_zero, List.getElem_cons_succ, List.setIfInBounds_toArray, List.set_cons_zero, List.set_cons_succ]
                    refine wpAnyH_take (i := 17) (v := ?_) rfl (by kernel_rfl) (by kernel_rfl) (by kernel_rfl) (fun _ _ _ h => h) (Or.inl ⟨by rfl, ?_⟩) (by assumption) ?_
                    rotate_left
                    · (intro wz hSw; (try dsimp only at hSw); go_simp; try with_reducible rfl)
                    simp only [Act.put, List.getElem_toArray, List.getElem_cons_zero, List.getElem_cons_succ, List.setIfInBounds_toArray, List.set_cons_zero, List.set_cons_succ]
                    refine wpAnyH_take (i := 18) (v := ?_) rfl (by kernel_rfl) (by kernel_rfl) (by kernel_rfl) (fun _ _ _ h => h) (Or.inl ⟨by rfl, ?_⟩) (by assumption) ?_
                    rotate_left
                    · (intro wz hSw; (try dsimp only at hSw); go_simp; try with_reducible rfl)
                    simp only [Act.put, List.getElem_toArray, List.getElem_cons_zero, List.getElem_cons_succ, List.setIfInBounds_toArray, List.set_cons_zero, List.set_cons_succ]
                    refine wpAnyH_done (by kernel_rfl) ?_ _
                    refine NoPanic.normal ?_
                    go_wp2_with fail
                    go_ret
                    exact ⟨rfl, hB⟩
                  exact AllReadyH.nil
                exact AllReadyH.nil
              exact AllReadyH.nil
            exact AllReadyH.nil
          exact AllReadyH.nil
        refine AllReadyH.cons rfl (fun K hK => ?_) ?_
        · go_simp
          have hn12 := below_new u11 (.cells #[] 3)
          have oe := newEmpty u11 3 1
          replace ot := ot.below hn12
          replace ox := ox.below hn12
          replace oz := oz.below hn12
          replace ol := ol.below hn12
          replace rt := rowKeep rt hn12
          clear mt0 mt1 mt2
          obtain ⟨mt0, mt1, mt2⟩ := cells3 rt
          replace rx := rowKeep rx hn12
          clear mx0 mx1 mx2
          obtain ⟨mx0, mx1, mx2⟩ := cells3 rx
          replace rz := rowKeep rz hn12
          clear mz0 mz1 mz2
          obtain ⟨mz0, mz1, mz2⟩ := cells3 rz
          replace hB := below_later hB hn12 (Nat.le_refl _)
          clear hn12
          have s12 : u11.heap.size + 1 ≤ (u11.alloc (.cells #[] 3)).heap.size := by rw [World.size_alloc]; exact Nat.le_refl _
          generalize (u11.alloc (.cells #[] 3)) = u12 at *
          refine hK.out _ _ ⟨mz0, mz1, mz2⟩ (fun hHeld => ?_)
          clear hK K
          try simp only [Act.put, List.getElem_toArray, List.getElem_cons_zero, List.getElem_cons_succ, List.setIfInBounds_toArray, List.set_cons_zero, List.set_cons_succ]
          refine wpAnyH_ready (rs := [8, 14]) (by kernel_rfl) (by simp) ?_
          refine AllReadyH.cons rfl (fun K hK => ?_) ?_
          · go_simp
            have q := implRingList_any Az zd.length cz _ zd zh zt _ oz.sees (by omega)
            rw [HZL.out] at q
            refine q.mono ?_
            clear q
            rintro e w13 ⟨Am, cm, rfl, om, b13⟩
            have s13 := b13.size
            replace ot := ot.below b13
            replace ox := ox.below b13
            replace oz := oz.below b13
            replace ol := ol.below b13
            replace oe := oe.below b13
            replace rt := rowKeep rt b13
            clear mt0 mt1 mt2
            obtain ⟨mt0, mt1, mt2⟩ := cells3 rt
            replace rx := rowKeep rx b13
            clear mx0 mx1 mx2
            obtain ⟨mx0, mx1, mx2⟩ := cells3 rx
            replace rz := rowKeep rz b13
            clear mz0 mz1 mz2
            obtain ⟨mz0, mz1, mz2⟩ := cells3 rz
            replace hB := below_later hB b13 (Nat.le_refl _)
            clear b13
            refine hK.out _ _ ⟨mz0, mz1, mz2⟩ (fun hHeld => ?_)
            clear hK K
            try simp only [Act.put, List.getElem_toArray, List.getElem_cons_zero, List.getElem_cons_succ, List.setIfInBounds_toArray, List.set_cons_zero, List.set_cons_succ]
            refine wpAnyH_ready (rs := [12, 14]) (by kernel_rfl) (by simp) ?_
            refine AllReadyH.cons rfl (fun K hK => ?_) ?_
            · rw [if_pos (by rfl)]
              refine wp_app2 _ (.tmp 59) (.tmp 61) _ (by rfl) 3 i0 (.int .i64 0) 1 8 Try.underlying23 hi0 hz0 hz1 hz2 rfl (by decide) _ _ _ _ _ _ (by rfl) oe _ _ _ _ _ (by rfl) ((show Sees _ _ 1 Al 0 0 (ints (L0.drop 1)) by have q := ol.sees.tail 1 (by omega) Al (fun h => absurd rfl h); rwa [show L0.length - 1 = 0 from by omega] at q)) (ints_one _) (by omega) (by omega) (by omega) ?_
              intro Ap cp w14 l14 h14 op d14 f14
              have s14 := f14.size
              rw [HD.out] at op
              replace ot := ot.fr f14 (by omega)
              replace ox := ox.fr f14 (by omega)
              replace oz := oz.fr f14 (by omega)
              replace ol := ol.fr f14 (by omega)
              replace om := om.fr f14 (by omega)
              replace rt := rowFr rt f14 (by omega)
              clear mt0 mt1 mt2
              obtain ⟨mt0, mt1, mt2⟩ := cells3 rt
              replace rx := rowFr rx f14 (by omega)
              clear mx0 mx1 mx2
              obtain ⟨mx0, mx1, mx2⟩ := cells3 rx
              replace rz := rowFr rz f14 (by omega)
              clear mz0 mz1 mz2
              obtain ⟨mz0, mz1, mz2⟩ := cells3 rz
              replace hB := f14.below hB (by omega) (Nat.le_refl _)
              clear f14 oe
              generalize hnp : 0 + 0 = np at *
              have hnq : np ≤ 17 := by omega
              clear hnp
              refine hK.out _ _ ⟨mz0, mz1, mz2⟩ (fun hHeld => ?_)
              clear hK K
              try simp only [Act.put, List.getElem_toArray, List.getElem_cons_zero, List.getElem_cons_succ, List.setIfInBounds_toArray, List.set_cons_zero, List.set_cons_succ]
              refine wpAnyH_ready (rs := [14]) (by kernel_rfl) (by simp) ?_
              refine AllReadyH.cons rfl (fun K hK => ?_) ?_
              · go_simp
                have hn15 := below_new w14 (.cells #[.int .i64 top] 3)
                have oq := newOne w14 3 (.int .i64 top)
                replace ot := ot.below hn15
                replace ox := ox.below hn15
                replace oz := oz.below hn15
                replace ol := ol.below hn15
                replace om := om.below hn15
                replace op := op.below hn15
                replace rt := rowKeep rt hn15
                clear mt0 mt1 mt2
                obtain ⟨mt0, mt1, mt2⟩ := cells3 rt
                replace rx := rowKeep rx hn15
                clear mx0 mx1 mx2
                obtain ⟨mx0, mx1, mx2⟩ := cells3 rx
                replace rz := rowKeep rz hn15
                clear mz0 mz1 mz2
                obtain ⟨mz0, mz1, mz2⟩ := cells3 rz
                replace hB := below_later hB hn15 (Nat.le_refl _)
                clear hn15
                have s15 : w14.heap.size + 1 ≤ (w14.alloc (.cells #[.int .i64 top] 3)).heap.size := by rw [World.size_alloc]; exact Nat.le_refl _
                generalize (w14.alloc (.cells #[.int .i64 top] 3)) = u15 at *
                refine hK.out _ _ ⟨mz0, mz1, mz2⟩ (fun hHeld => ?_)
                clear hK K
                try simp only [Act.put, List.getElem_toArray, List.getElem_cons_zero, List.getElem_cons_succ, List.setIfInBounds_toArray, List.set_cons_zero, List.set_cons_succ]
                refine wpAnyH_ready (rs := [15]) (by kernel_rfl) (by simp) ?_
                refine AllReadyH.cons rfl (fun K hK => ?_) ?_
                · rw [if_pos (by rfl)]
                  refine wp_app _ (.tmp 62) (.tmp 64) _ (by rfl) 3 i0 (.int .i64 0) 1 8 Try.underlying23 hi0 hz0 hz1 hz2 rfl (by decide) _ _ _ _ _ _ (by rfl) op _ _ _ _ _ (by rfl) (oq.sees) (one_int _) (by omega) (by omega) (by omega) ?_
                  intro As cs w16 os f16
                  have s16 := f16.size
                  rw [HAP.out] at os
                  replace ot := ot.fr f16 (by omega)
                  replace ox := ox.fr f16 (by omega)
                  replace oz := oz.fr f16 (by omega)
                  replace ol := ol.fr f16 (by omega)
                  replace om := om.fr f16 (by omega)
                  replace oq := oq.fr f16 (by omega)
                  replace rt := rowFr rt f16 (by omega)
                  clear mt0 mt1 mt2
                  obtain ⟨mt0, mt1, mt2⟩ := cells3 rt
                  replace rx := rowFr rx f16 (by omega)
                  clear mx0 mx1 mx2
                  obtain ⟨mx0, mx1, mx2⟩ := cells3 rx
                  replace rz := rowFr rz f16 (by omega)
                  clear mz0 mz1 mz2
                  obtain ⟨mz0, mz1, mz2⟩ := cells3 rz
                  replace hB := f16.below hB (by omega) (Nat.le_refl _)
                  clear f16 op
                  refine hK.out _ _ ⟨mz0, mz1, mz2⟩ (fun hHeld => ?_)
                  clear hK K
                  try simp only [Act.put, List.getElem_toArray, List.getElem_cons_zero, List.getElem_cons_succ, List.setIfInBounds_toArray, List.set_cons_zero, List.set_cons_succ]
                  refine wpAnyH_ready (rs := [16]) (by kernel_rfl) (by simp) ?_
                  refine AllReadyH.cons rfl (fun K hK => ?_) ?_
                  · go_simp
                    refine (sameInts_t _ _ _ _ _ _ _ _ L2 _ om.sees os.sees).mono ?_
                    rintro e w17 ⟨rfl, b17⟩
                    have s17 := b17.size
                    replace ot := ot.below b17
                    replace ox := ox.below b17
                    replace oz := oz.below b17
                    replace ol := ol.below b17
                    replace om := om.below b17
                    replace oq := oq.below b17
                    replace os := os.below b17
                    replace rt := rowKeep rt b17
                    clear mt0 mt1 mt2
                    obtain ⟨mt0, mt1, mt2⟩ := cells3 rt
                    replace rx := rowKeep rx b17
                    clear mx0 mx1 mx2
                    obtain ⟨mx0, mx1, mx2⟩ := cells3 rx
                    replace rz := rowKeep rz b17
                    clear mz0 mz1 mz2
                    obtain ⟨mz0, mz1, mz2⟩ := cells3 rz
                    replace hB := below_later hB b17 (Nat.le_refl _)
                    clear b17
                    refine hK.out _ _ ⟨mz0, mz1, mz2⟩ (fun hHeld => ?_)
                    clear hK K
                    try simp only [Act.put, List.getElem_toArray, List.getElem_cons_zero, List.getElem_cons_succ, List.setIfInBounds_toArray, List.set_cons_zero, List.set_cons_succ]
                    refine wpAnyH_take (i := 17) (v := ?_) rfl (by kernel_rfl) (by kernel_rfl) (by kernel_rfl) (fun _ _ _ h => h) (Or.inl ⟨by rfl, ?_⟩) (by assumption) ?_
                    rotate_left
                    · (intro wz hSw; (try dsimp only at hSw); go_simp; try with_reducible rfl)
                    simp only [Act.put, List.getElem_toArray, List.getElem_cons_zero, List.getElem_cons_succ, List.setIfInBounds_toArray, List.set_cons_zero, List.set_cons_succ]
                    refine wpAnyH_take (i := 18) (v := ?_) rfl (by kernel_rfl) (by kernel_rfl) (by kernel_rfl) (fun _ _ _ h => h) (Or.inl ⟨by rfl, ?_⟩) (by assumption) ?_
                    rotate_left
                    · (intro wz hSw; (try dsimp only at hSw); go_simp; try with_reducible rfl)
                    simp only [Act.put, List.getElem_toArray, List.getElem_cons_zero, List.getElem_cons_succ, List.setIfInBounds_toArray, List.set_cons_zero, List.set_cons_succ]
                    refine wpAnyH_done (by kernel_rfl) ?_ _
                    refine NoPanic.normal ?_
                    go_wp2_with fail
                    go_ret
                    exact ⟨rfl, hB⟩
                  exact AllReadyH.nil
                exact AllReadyH.nil
              exact AllReadyH.nil
            refine AllReadyH.cons rfl (fun K hK => ?_) ?_
            · go_simp
              have hn14 := below_new w13 (.cells #[.int .i64 top] 3)
              have oq := newOne w13 3 (.int .i64 top)
              replace ot := ot.below hn14
              replace ox := ox.below hn14
              replace oz := oz.below hn14
              replace ol := ol.below hn14
              replace oe := oe.below hn14
              replace om := om.below hn14
              replace rt := rowKeep rt hn14
              clear mt0 mt1 mt2
              obtain ⟨mt0, mt1, mt2⟩ := cells3 rt
              replace rx := rowKeep rx hn14
              clear mx0 mx1 mx2
              obtain ⟨mx0, mx1, mx2⟩ := cells3 rx
              replace rz := rowKeep rz hn14
              clear mz0 mz1 mz2
              obtain ⟨mz0, mz1, mz2⟩ := cells3 rz
              replace hB := below_later hB hn14 (Nat.le_refl _)
              clear hn14
              have s14 : w13.heap.size + 1 ≤ (w13.alloc (.cells #[.int .i64 top] 3)).heap.size := by rw [World.size_alloc]; exact Nat.le_refl _
              generalize (w13.alloc (.cells #[.int .i64 top] 3)) = u14 at *
              refine hK.out _ _ ⟨mz0, mz1, mz2⟩ (fun hHeld => ?_)
              clear hK K
              try simp only [Act.put, List.getElem_toArray, List.getElem_cons_zero, List.getElem_cons_succ, List.setIfInBounds_toArray, List.set_cons_zero, List.set_cons_succ]
              refine wpAnyH_ready (rs := [12]) (by kernel_rfl) (by simp) ?_
              refine AllReadyH.cons rfl (fun K hK => ?_) ?_
              · rw [if_pos (by rfl)]
                refine wp_app2 _ (.tmp 59) (.tmp 61) _ (by rfl) 3 i0 (.int .i64 0) 1 8 Try.underlying23 hi0 hz0 hz1 hz2 rfl (by decide) _ _ _ _ _ _ (by rfl) oe _ _ _ _ _ (by rfl) ((show Sees _ _ 1 Al 0 0 (ints (L0.drop 1)) by have q := ol.sees.tail 1 (by omega) Al (fun h => absurd rfl h); rwa [show L0.length - 1 = 0 from by omega] at q)) (ints_one _) (by omega) (by omega) (by omega) ?_
                intro Ap cp w15 l15 h15 op d15 f15
                have s15 := f15.size
                rw [HD.out] at op
                replace ot := ot.fr f15 (by omega)
                replace ox := ox.fr f15 (by omega)
                replace oz := oz.fr f15 (by omega)
                replace ol := ol.fr f15 (by omega)
                replace om := om.fr f15 (by omega)
                replace oq := oq.fr f15 (by omega)
                replace rt := rowFr rt f15 (by omega)
                clear mt0 mt1 mt2
                obtain ⟨mt0, mt1, mt2⟩ := cells3 rt
                replace rx := rowFr rx f15 (by omega)
                clear mx0 mx1 mx2
                obtain ⟨mx0, mx1, mx2⟩ := cells3 rx
                replace rz := rowFr rz f15 (by omega)
                clear mz0 mz1 mz2
                obtain ⟨mz0, mz1, mz2⟩ := cells3 rz
                replace hB := f15.below hB (by omega) (Nat.le_refl _)
                clear f15 oe
                generalize hnp : 0 + 0 = np at *
                have hnq : np ≤ 17 := by omega
                clear hnp
                refine hK.out _ _ ⟨mz0, mz1, mz2⟩ (fun hHeld => ?_)
                clear hK K
                try simp only [Act.put, List.getElem_toArray, List.getElem_cons_zero, List.getElem_cons_succ, List.setIfInBounds_toArray, List.set_cons_zero, List.set_cons_succ]
                refine wpAnyH_ready (rs := [15]) (by kernel_rfl) (by simp) ?_
                refine AllReadyH.cons rfl (fun K hK => ?_) ?_
                · rw [if_pos (by rfl)]
                  refine wp_app _ (.tmp 62) (.tmp 64) _ (by rfl) 3 i0 (.int .i64 0) 1 8 Try.underlying23 hi0 hz0 hz1 hz2 rfl (by decide) _ _ _ _ _ _ (by rfl) op _ _ _ _ _ (by rfl) (oq.sees) (one_int _) (by omega) (by omega) (by omega) ?_
                  intro As cs w16 os f16
                  have s16 := f16.size
                  rw [HAP.out] at os
                  replace ot := ot.fr f16 (by omega)
                  replace ox := ox.fr f16 (by omega)
                  replace oz := oz.fr f16 (by omega)
                  replace ol := ol.fr f16 (by omega)
                  replace om := om.fr f16 (by omega)
                  replace oq := oq.fr f16 (by omega)
                  replace rt := rowFr rt f16 (by omega)
                  clear mt0 mt1 mt2
                  obtain ⟨mt0, mt1, mt2⟩ := cells3 rt
                  replace rx := rowFr rx f16 (by omega)
                  clear mx0 mx1 mx2
                  obtain ⟨mx0, mx1, mx2⟩ := cells3 rx
                  replace rz := rowFr rz f16 (by omega)
                  clear mz0 mz1 mz2
                  obtain ⟨mz0, mz1, mz2⟩ := cells3 rz
                  replace hB := f16.below hB (by omega) (Nat.le_refl _)
                  clear f16 op
                  refine hK.out _ _ ⟨mz0, mz1, mz2⟩ (fun hHeld => ?_)
                  clear hK K
                  try simp only [Act.put, List.getElem_toArray, List.getElem_cons_zero, List.getElem_cons_succ, List.setIfInBounds_toArray, List.set_cons_zero, List.set_cons_succ]
                  refine wpAnyH_ready (rs := [16]) (by kernel_rfl) (by simp) ?_
                  refine AllReadyH.cons rfl (fun K hK => ?_) ?_
                  · go_simp
                    refine (sameInts_t _ _ _ _ _ _ _ _ L2 _ om.sees os.sees).mono ?_
                    rintro e w17 ⟨rfl, b17⟩
                    have s17 := b17.size
                    replace ot := ot.below b17
                    replace ox := ox.below b17
                    replace oz := oz.below b17
                    replace ol := ol.below b17
                    replace om := om.below b17
                    replace oq := oq.below b17
                    replace os := os.below b17
                    replace rt := rowKeep rt b17
                    clear mt0 mt1 mt2
                    obtain ⟨mt0, mt1, mt2⟩ := cells3 rt
                    replace rx := rowKeep rx b17
                    clear mx0 mx1 mx2
                    obtain ⟨mx0, mx1, mx2⟩ := cells3 rx
                    replace rz := rowKeep rz b17
                    clear mz0 mz1 mz2
                    obtain ⟨mz0, mz1, mz2⟩ := cells3 rz
                    replace hB := below_later hB b17 (Nat.le_refl _)
                    clear b17
                    refine hK.out _ _ ⟨mz0, mz1, mz2⟩ (fun hHeld => ?_)
                    clear hK K
                    try simp only [Act.put, List.getElem_toArray, List.getElem_cons_zero, List.getElem_cons_succ, List.setIfInBounds_toArray, List.set_cons_zero, List.set_cons_succ]
                    refine wpAnyH_take (i := 17) (v := ?_) rfl (by kernel_rfl) (by kernel_rfl) (by kernel_rfl) (fun _ _ _ h => h) (Or.inl ⟨by rfl, ?_⟩) (by assumption) ?_
                    rotate_left
                    · (intro wz hSw; (try dsimp only at hSw); go_simp; try with_reducible rfl)
                    simp only [Act.put, List.getElem_toArray, List.getElem_cons_zero, List.getElem_cons_succ, List.setIfInBounds_toArray, List.set_cons_zero, List.set_cons_succ]
                    refine wpAnyH_take (i := 18) (v := ?_) rfl (by kernel_rfl) (by kernel_rfl) (by kernel_rfl) (fun _ _ _ h => h) (Or.inl ⟨by rfl, ?_⟩) (by assumption) ?_
                    rotate_left
                    · (intro wz hSw; (try dsimp only at hSw); go_simp; try with_reducible rfl)
                    simp only [Act.put, List.getElem_toArray, List.getElem_cons_zero, List.getElem_cons_succ, List.setIfInBounds_toArray, List.set_cons_zero, List.set_cons_succ]
                    refine wpAnyH_done (by kernel_rfl) ?_ _
                    refine NoPanic.normal ?_
                    go_wp2_with fail
                    go_ret
                    exact ⟨rfl, hB⟩
                  exact AllReadyH.nil
                exact AllReadyH.nil
              exact AllReadyH.nil
            exact AllReadyH.nil
          refine AllReadyH.cons rfl (fun K hK => ?_) ?_
          · go_simp
            have hn13 := below_new u12 (.cells #[.int .i64 top] 3)
            have oq := newOne u12 3 (.int .i64 top)
            replace ot := ot.below hn13
            replace ox := ox.below hn13
            replace oz := oz.below hn13
            replace ol := ol.below hn13
            replace oe := oe.below hn13
            replace rt := rowKeep rt hn13
            clear mt0 mt1 mt2
            obtain ⟨mt0, mt1, mt2⟩ := cells3 rt
            replace rx := rowKeep rx hn13
            clear mx0 mx1 mx2
            obtain ⟨mx0, mx1, mx2⟩ := cells3 rx
            replace rz := rowKeep rz hn13
            clear mz0 mz1 mz2
            obtain ⟨mz0, mz1, mz2⟩ := cells3 rz
            replace hB := below_later hB hn13 (Nat.le_refl _)
            clear hn13
            have s13 : u12.heap.size + 1 ≤ (u12.alloc (.cells #[.int .i64 top] 3)).heap.size := by rw [World.size_alloc]; exact Nat.le_refl _
            generalize (u12.alloc (.cells #[.int .i64 top] 3)) = u13 at *
            refine hK.out _ _ ⟨mz0, mz1, mz2⟩ (fun hHeld => ?_)
            clear hK K
            try simp only [Act.put, List.getElem_toArray, List.getElem_cons_zero, List.getElem_cons_succ, List.setIfInBounds_toArray, List.set_cons_zero, List.set_cons_succ]
            refine wpAnyH_ready (rs := [8]) (by kernel_rfl) (by simp) ?_
            refine AllReadyH.cons rfl (fun K hK => ?_) ?_
            · go_simp
              have q := implRingList_any Az zd.length cz _ zd zh zt _ oz.sees (by omega)
              rw [HZL.out] at q
              refine q.mono ?_
              clear q
              rintro e w14 ⟨Am, cm, rfl, om, b14⟩
              have s14 := b14.size
              replace ot := ot.below b14
              replace ox := ox.below b14
              replace oz := oz.below b14
              replace ol := ol.below b14
              replace oe := oe.below b14
              replace oq := oq.below b14
              replace rt := rowKeep rt b14
              clear mt0 mt1 mt2
              obtain ⟨mt0, mt1, mt2⟩ := cells3 rt
              replace rx := rowKeep rx b14
              clear mx0 mx1 mx2
              obtain ⟨mx0, mx1, mx2⟩ := cells3 rx
              replace rz := rowKeep rz b14
              clear mz0 mz1 mz2
              obtain ⟨mz0, mz1, mz2⟩ := cells3 rz
              replace hB := below_later hB b14 (Nat.le_refl _)
              clear b14
              refine hK.out _ _ ⟨mz0, mz1, mz2⟩ (fun hHeld => ?_)
              clear hK K
              try simp only [Act.put, List.getElem_toArray, List.getElem_cons_zero, List.getElem_cons_succ, List.setIfInBounds_toArray, List.set_cons_zero, List.set_cons_succ]
              refine wpAnyH_ready (rs := [12]) (by kernel_rfl) (by simp) ?_
              refine AllReadyH.cons rfl (fun K hK => ?_) ?_
              · rw [if_pos (by rfl)]
                refine wp_app2 _ (.tmp 59) (.tmp 61) _ (by rfl) 3 i0 (.int .i64 0) 1 8 Try.underlying23 hi0 hz0 hz1 hz2 rfl (by decide) _ _ _ _ _ _ (by rfl) oe _ _ _ _ _ (by rfl) ((show Sees _ _ 1 Al 0 0 (ints (L0.drop 1)) by have q := ol.sees.tail 1 (by omega) Al (fun h => absurd rfl h); rwa [show L0.length - 1 = 0 from by omega] at q)) (ints_one _) (by omega) (by omega) (by omega) ?_
                intro Ap cp w15 l15 h15 op d15 f15
                have s15 := f15.size
                rw [HD.out] at op
                replace ot := ot.fr f15 (by omega)
                replace ox := ox.fr f15 (by omega)
                replace oz := oz.fr f15 (by omega)
                replace ol := ol.fr f15 (by omega)
                replace oq := oq.fr f15 (by omega)
                replace om := om.fr f15 (by omega)
                replace rt := rowFr rt f15 (by omega)
                clear mt0 mt1 mt2
                obtain ⟨mt0, mt1, mt2⟩ := cells3 rt
                replace rx := rowFr rx f15 (by omega)
                clear mx0 mx1 mx2
                obtain ⟨mx0, mx1, mx2⟩ := cells3 rx
                replace rz := rowFr rz f15 (by omega)
                clear mz0 mz1 mz2
                obtain ⟨mz0, mz1, mz2⟩ := cells3 rz
                replace hB := f15.below hB (by omega) (Nat.le_refl _)
                clear f15 oe
                generalize hnp : 0 + 0 = np at *
                have hnq : np ≤ 17 := by omega
                clear hnp
                refine hK.out _ _ ⟨mz0, mz1, mz2⟩ (fun hHeld => ?_)
                clear hK K
                try simp only [Act.put, List.getElem_toArray, List.getElem_cons_zero, List.getElem_cons_succ, List.setIfInBounds_toArray, List.set_cons_zero, List.set_cons_succ]
                refine wpAnyH_ready (rs := [15]) (by kernel_rfl) (by simp) ?_
                refine AllReadyH.cons rfl (fun K hK => ?_) ?_
                · rw [if_pos (by rfl)]
                  refine wp_app _ (.tmp 62) (.tmp 64) _ (by rfl) 3 i0 (.int .i64 0) 1 8 Try.underlying23 hi0 hz0 hz1 hz2 rfl (by decide) _ _ _ _ _ _ (by rfl) op _ _ _ _ _ (by rfl) (oq.sees) (one_int _) (by omega) (by omega) (by omega) ?_
                  intro As cs w16 os f16
                  have s16 := f16.size
                  rw [HAP.out] at os
                  replace ot := ot.fr f16 (by omega)
                  replace ox := ox.fr f16 (by omega)
                  replace oz := oz.fr f16 (by omega)
                  replace ol := ol.fr f16 (by omega)
                  replace oq := oq.fr f16 (by omega)
                  replace om := om.fr f16 (by omega)
                  replace rt := rowFr rt f16 (by omega)
                  clear mt0 mt1 mt2
                  obtain ⟨mt0, mt1, mt2⟩ := cells3 rt
                  replace rx := rowFr rx f16 (by omega)
                  clear mx0 mx1 mx2
                  obtain ⟨mx0, mx1, mx2⟩ := cells3 rx
                  replace rz := rowFr rz f16 (by omega)
                  clear mz0 mz1 mz2
                  obtain ⟨mz0, mz1, mz2⟩ := cells3 rz
                  replace hB := f16.below hB (by omega) (Nat.le_refl _)
                  clear f16 op
                  refine hK.out _ _ ⟨mz0, mz1, mz2⟩ (fun hHeld => ?_)
                  clear hK K
                  try simp only [Act.put, List.getElem_toArray, List.getElem_cons_zero, List.getElem_cons_succ, List.setIfInBounds_toArray, List.set_cons_zero, List.set_cons_succ]
                  refine wpAnyH_ready (rs := [16]) (by kernel_rfl) (by simp) ?_
                  refine AllReadyH.cons rfl (fun K hK => ?_) ?_
                  · go_simp
                    refine (sameInts_t _ _ _ _ _ _ _ _ L2 _ om.sees os.sees).mono ?_
                    rintro e w17 ⟨rfl, b17⟩
                    have s17 := b17.size
                    replace ot := ot.below b17
                    replace ox := ox.below b17
                    replace oz := oz.below b17
                    replace ol := ol.below b17
                    replace oq := oq.below b17
                    replace om := om.below b17
                    replace os := os.below b17
                    replace rt := rowKeep rt b17
                    clear mt0 mt1 mt2
                    obtain ⟨mt0, mt1, mt2⟩ := cells3 rt
                    replace rx := rowKeep rx b17
                    clear mx0 mx1 mx2
                    obtain ⟨mx0, mx1, mx2⟩ := cells3 rx
                    replace rz := rowKeep rz b17
                    clear mz0 mz1 mz2
                    obtain ⟨mz0, mz1, mz2⟩ := cells3 rz
                    replace hB := below_later hB b17 (Nat.le_refl _)
                    clear b17
                    refine hK.out _ _ ⟨mz0, mz1, mz2⟩ (fun hHeld => ?_)
                    clear hK K
                    try simp only [Act.put, List.getElem_toArray, List.getElem_cons_zero, List.getElem_cons_succ, List.setIfInBounds_toArray, List.set_cons_zero, List.set_cons_succ]
                    refine wpAnyH_take (i := 17) (v := ?_) rfl (by kernel_rfl) (by kernel_rfl) (by kernel_rfl) (fun _ _ _ h => h) (Or.inl ⟨by rfl, ?_⟩) (by assumption) ?_
                    rotate_left
                    · (intro wz hSw; (try dsimp only at hSw); go_simp; try with_reducible rfl)
                    simp only [Act.put, List.getElem_toArray, List.getElem_cons_zero, List.getElem_cons_succ, List.setIfInBounds_toArray, List.set_cons_zero, List.set_cons_succ]
                    refine wpAnyH_take (i := 18) (v := ?_) rfl (by kernel_rfl) (by kernel_rfl) (by kernel_rfl) (fun _ _ _ h => h) (Or.inl ⟨by rfl, ?_⟩) (by assumption) ?_
                    rotate_left
                    · (intro wz hSw; (try dsimp only at hSw); go_simp; try with_reducible rfl)
                    simp only [Act.put, List.getElem_toArray, List.getElem_cons_zero, List.getElem_cons_succ, List.setIfInBounds_toArray, List.set_cons_zero, List.set_cons_succ]
                    refine wpAnyH_done (by kernel_rfl) ?_ _
                    refine NoPanic.normal ?_
                    go_wp2_with fail
                    go_ret
                    exact ⟨rfl, hB⟩
                  exact AllReadyH.nil
                exact AllReadyH.nil
              exact AllReadyH.nil
            exact AllReadyH.nil
          exact AllReadyH.nil
        refine AllReadyH.cons rfl (fun K hK => ?_) ?_
        · go_simp
          have hn12 := below_new u11 (.cells #[.int .i64 top] 3)
          have oq := newOne u11 3 (.int .i64 top)
          replace ot := ot.below hn12
          replace ox := ox.below hn12
          replace oz := oz.below hn12
          replace ol := ol.below hn12
          replace rt := rowKeep rt hn12
          clear mt0 mt1 mt2
          obtain ⟨mt0, mt1, mt2⟩ := cells3 rt
          replace rx := rowKeep rx hn12
          clear mx0 mx1 mx2
          obtain ⟨mx0, mx1, mx2⟩ := cells3 rx
          replace rz := rowKeep rz hn12
          clear mz0 mz1 mz2
          obtain ⟨mz0, mz1, mz2⟩ := cells3 rz
          replace hB := below_later hB hn12 (Nat.le_refl _)
          clear hn12
          have s12 : u11.heap.size + 1 ≤ (u11.alloc (.cells #[.int .i64 top] 3)).heap.size := by rw [World.size_alloc]; exact Nat.le_refl _
          generalize (u11.alloc (.cells #[.int .i64 top] 3)) = u12 at *
          refine hK.out _ _ ⟨mz0, mz1, mz2⟩ (fun hHeld => ?_)
          clear hK K
          try simp only [Act.put, List.getElem_toArray, List.getElem_cons_zero, List.getElem_cons_succ, List.setIfInBounds_toArray, List.set_cons_zero, List.set_cons_succ]
          refine wpAnyH_ready (rs := [8, 9]) (by kernel_rfl) (by simp) ?_
          refine AllReadyH.cons rfl (fun K hK => ?_) ?_
          · go_simp
            have q := implRingList_any Az zd.length cz _ zd zh zt _ oz.sees (by omega)
            rw [HZL.out] at q
            refine q.mono ?_
            clear q
            rintro e w13 ⟨Am, cm, rfl, om, b13⟩
            have s13 := b13.size
            replace ot := ot.below b13
            replace ox := ox.below b13
            replace oz := oz.below b13
            replace ol := ol.below b13
            replace oq := oq.below b13
            replace rt := rowKeep rt b13
            clear mt0 mt1 mt2
            obtain ⟨mt0, mt1, mt2⟩ := cells3 rt
            replace rx := rowKeep rx b13
            clear mx0 mx1 mx2
            obtain ⟨mx0, mx1, mx2⟩ := cells3 rx
            replace rz := rowKeep rz b13
            clear mz0 mz1 mz2
            obtain ⟨mz0, mz1, mz2⟩ := cells3 rz
            replace hB := below_later hB b13 (Nat.le_refl _)
            clear b13
            refine hK.out _ _ ⟨mz0, mz1, mz2⟩ (fun hHeld => ?_)
            clear hK K
            try simp only [Act.put, List.getElem_toArray, List.getElem_cons_zero, List.getElem_cons_succ, List.setIfInBounds_toArray, List.set_cons_zero, List.set_cons_succ]
            refine wpAnyH_ready (rs := [9]) (by kernel_rfl) (by simp) ?_
            refine AllReadyH.cons rfl (fun K hK => ?_) ?_
            · go_simp
              have hn14 := below_new w13 (.cells #[] 3)
              have oe := newEmpty w13 3 1
              replace ot := ot.below hn14
              replace ox := ox.below hn14
              replace oz := oz.below hn14
              replace ol := ol.below hn14
              replace oq := oq.below hn14
              replace om := om.below hn14
              replace rt := rowKeep rt hn14
              clear mt0 mt1 mt2
              obtain ⟨mt0, mt1, mt2⟩ := cells3 rt
              replace rx := rowKeep rx hn14
              clear mx0 mx1 mx2
              obtain ⟨mx0, mx1, mx2⟩ := cells3 rx
              replace rz := rowKeep rz hn14
              clear mz0 mz1 mz2
              obtain ⟨mz0, mz1, mz2⟩ := cells3 rz
              replace hB := below_later hB hn14 (Nat.le_refl _)
              clear hn14
              have s14 : w13.heap.size + 1 ≤ (w13.alloc (.cells #[] 3)).heap.size := by rw [World.size_alloc]; exact Nat.le_refl _
              generalize (w13.alloc (.cells #[] 3)) = u14 at *
              refine hK.out _ _ ⟨mz0, mz1, mz2⟩ (fun hHeld => ?_)
              clear hK K
              try simp only [Act.put, List.getElem_toArray, List.getElem_cons_zero, List.getElem_cons_succ, List.setIfInBounds_toArray, List.set_cons_zero, List.set_cons_succ]
              refine wpAnyH_ready (rs := [12]) (by kernel_rfl) (by simp) ?_
              refine AllReadyH.cons rfl (fun K hK => ?_) ?_
              · rw [if_pos (by rfl)]
                refine wp_app2 _ (.tmp 59) (.tmp 61) _ (by rfl) 3 i0 (.int .i64 0) 1 8 Try.underlying23 hi0 hz0 hz1 hz2 rfl (by decide) _ _ _ _ _ _ (by rfl) oe _ _ _ _ _ (by rfl) ((show Sees _ _ 1 Al 0 0 (ints (L0.drop 1)) by have q := ol.sees.tail 1 (by omega) Al (fun h => absurd rfl h); rwa [show L0.length - 1 = 0 from by omega] at q)) (ints_one _) (by omega) (by omega) (by omega) ?_
                intro Ap cp w15 l15 h15 op d15 f15
                have s15 := f15.size
                rw [HD.out] at op
                replace ot := ot.fr f15 (by omega)
                replace ox := ox.fr f15 (by omega)
                replace oz := oz.fr f15 (by omega)
                replace ol := ol.fr f15 (by omega)
                replace oq := oq.fr f15 (by omega)
                replace om := om.fr f15 (by omega)
                replace rt := rowFr rt f15 (by omega)
                clear mt0 mt1 mt2
                obtain ⟨mt0, mt1, mt2⟩ := cells3 rt
                replace rx := rowFr rx f15 (by omega)
                clear mx0 mx1 mx2
                obtain ⟨mx0, mx1, mx2⟩ := cells3 rx
                replace rz := rowFr rz f15 (by omega)
                clear mz0 mz1 mz2
                obtain ⟨mz0, mz1, mz2⟩ := cells3 rz
                replace hB := f15.below hB (by omega) (Nat.le_refl _)
                clear f15 oe
                generalize hnp : 0 + 0 = np at *
                have hnq : np ≤ 17 := by omega
                clear hnp
                refine hK.out _ _ ⟨mz0, mz1, mz2⟩ (fun hHeld => ?_)
                clear hK K
                try simp only [Act.put, List.getElem_toArray, List.getElem_cons_zero, List.getElem_cons_succ, List.setIfInBounds_toArray, List.set_cons_zero, List.set_cons_succ]
                refine wpAnyH_ready (rs := [15]) (by kernel_rfl) (by simp) ?_
                refine AllReadyH.cons rfl (fun K hK => ?_) ?_
                · rw [if_pos (by rfl)]
                  refine wp_app _ (.tmp 62) (.tmp 64) _ (by rfl) 3 i0 (.int .i64 0) 1 8 Try.underlying23 hi0 hz0 hz1 hz2 rfl (by decide) _ _ _ _ _ _ (by rfl) op _ _ _ _ _ (by rfl) (oq.sees) (one_int _) (by omega) (by omega) (by omega) ?_
                  intro As cs w16 os f16
                  have s16 := f16.size
                  rw [HAP.out] at os
                  replace ot := ot.fr f16 (by omega)
                  replace ox := ox.fr f16 (by omega)
                  replace oz := oz.fr f16 (by omega)
                  replace ol := ol.fr f16 (by omega)
                  replace oq := oq.fr f16 (by omega)
                  replace om := om.fr f16 (by omega)
                  replace rt := rowFr rt f16 (by omega)
                  clear mt0 mt1 mt2
                  obtain ⟨mt0, mt1, mt2⟩ := cells3 rt
                  replace rx := rowFr rx f16 (by omega)
                  clear mx0 mx1 mx2
                  obtain ⟨mx0, mx1, mx2⟩ := cells3 rx
                  replace rz := rowFr rz f16 (by omega)
                  clear mz0 mz1 mz2
                  obtain ⟨mz0, mz1, mz2⟩ := cells3 rz
                  replace hB := f16.below hB (by omega) (Nat.le_refl _)
                  clear f16 op
                  refine hK.out _ _ ⟨mz0, mz1, mz2⟩ (fun hHeld => ?_)
                  clear hK K
                  try simp only [Act.put, List.getElem_toArray, List.getElem_cons_zero, List.getElem_cons_succ, List.setIfInBounds_toArray, List.set_cons_zero, List.set_cons_succ]
                  refine wpAnyH_ready (rs := [16]) (by kernel_rfl) (by simp) ?_
                  refine AllReadyH.cons rfl (fun K hK => ?_) ?_
                  · go_simp
                    refine (sameInts_t _ _ _ _ _ _ _ _ L2 _ om.sees os.sees).mono ?_
                    rintro e w17 ⟨rfl, b17⟩
                    have s17 := b17.size
                    replace ot := ot.below b17
                    replace ox := ox.below b17
                    replace oz := oz.below b17
                    replace ol := ol.below b17
                    replace oq := oq.below b17
                    replace om := om.below b17
                    replace os := os.below b17
                    replace rt := rowKeep rt b17
                    clear mt0 mt1 mt2
                    obtain ⟨mt0, mt1, mt2⟩ := cells3 rt
                    replace rx := rowKeep rx b17
                    clear mx0 mx1 mx2
                    obtain ⟨mx0, mx1, mx2⟩ := cells3 rx
                    replace rz := rowKeep rz b17
                    clear mz0 mz1 mz2
                    obtain ⟨mz0, mz1, mz2⟩ := cells3 rz
                    replace hB := below_later hB b17 (Nat.le_refl _)
                    clear b17
                    refine hK.out _ _ ⟨mz0, mz1, mz2⟩ (fun hHeld => ?_)
                    clear hK K
                    try simp only [Act.put, List.getElem_toArray, List.getElem_cons_zero, List.getElem_cons_succ, List.setIfInBounds_toArray, List.set_cons_zero, List.set_cons_succ]
                    refine wpAnyH_take (i := 17) (v := ?_) rfl (by kernel_rfl) (by kernel_rfl) (by kernel_rfl) (fun _ _ _ h => h) (Or.inl ⟨by rfl, ?_⟩) (by assumption) ?_
                    rotate_left
                    · (intro wz hSw; (try dsimp only at hSw); go_simp; try with_reducible rfl)
                    simp only [Act.put, List.getElem_toArray, List.getElem_cons_zero, List.getElem_cons_succ, List.setIfInBounds_toArray, List.set_cons_zero, List.set_cons_succ]
                    refine wpAnyH_take (i := 18) (v := ?_) rfl (by kernel_rfl) (by kernel_rfl) (by kernel_rfl) (fun _ _ _ h => h) (Or.inl ⟨by rfl, ?_⟩) (by assumption) ?_
                    rotate_left
                    · (intro wz hSw; (try dsimp only at hSw); go_simp; try with_reducible rfl)
                    simp only [Act.put, List.getElem_toArray, List.getElem_cons_zero, List.getElem_cons_succ, List.setIfInBounds_toArray, List.set_cons_zero, List.set_cons_succ]
                    refine wpAnyH_done (by kernel_rfl) ?_ _
                    refine NoPanic.normal ?_
                    go_wp2_with fail
                    go_ret
                    exact ⟨rfl, hB⟩
                  exact AllReadyH.nil
                exact AllReadyH.nil
              exact AllReadyH.nil
            exact AllReadyH.nil
          refine AllReadyH.cons rfl (fun K hK => ?_) ?_
          · go_simp
            have hn13 := below_new u12 (.cells #[] 3)
            have oe := newEmpty u12 3 1
            replace ot := ot.below hn13
            replace ox := ox.below hn13
            replace oz := oz.below hn13
            replace ol := ol.below hn13
            replace oq := oq.below hn13
            replace rt := rowKeep rt hn13
            clear mt0 mt1 mt2
            obtain ⟨mt0, mt1, mt2⟩ := cells3 rt
            replace rx := rowKeep rx hn13
            clear mx0 mx1 mx2
            obtain ⟨mx0, mx1, mx2⟩ := cells3 rx
            replace rz := rowKeep rz hn13
            clear mz0 mz1 mz2
            obtain ⟨mz0, mz1, mz2⟩ := cells3 rz
            replace hB := below_later hB hn13 (Nat.le_refl _)
            clear hn13
            have s13 : u12.heap.size + 1 ≤ (u12.alloc (.cells #[] 3)).heap.size := by rw [World.size_alloc]; exact Nat.le_refl _
            generalize (u12.alloc (.cells #[] 3)) = u13 at *
            refine hK.out _ _ ⟨mz0, mz1, mz2⟩ (fun hHeld => ?_)
            clear hK K
            try simp only [Act.put, List.getElem_toArray, List.getElem_cons_zero, List.getElem_cons_succ, List.setIfInBounds_toArray, List.set_cons_zero, List.set_cons_succ]
            refine wpAnyH_ready (rs := [8]) (by kernel_rfl) (by simp) ?_
            refine AllReadyH.cons rfl (fun K hK => ?_) ?_
            · go_simp
              have q := implRingList_any Az zd.length cz _ zd zh zt _ oz.sees (by omega)
              rw [HZL.out] at q
              refine q.mono ?_
              clear q
              rintro e w14 ⟨Am, cm, rfl, om, b14⟩
              have s14 := b14.size
              replace ot := ot.below b14
              replace ox := ox.below b14
              replace oz := oz.below b14
              replace ol := ol.below b14
              replace oq := oq.below b14
              replace oe := oe.below b14
              replace rt := rowKeep rt b14
              clear mt0 mt1 mt2
              obtain ⟨mt0, mt1, mt2⟩ := cells3 rt
              replace rx := rowKeep rx b14
              clear mx0 mx1 mx2
              obtain ⟨mx0, mx1, mx2⟩ := cells3 rx
              replace rz := rowKeep rz b14
              clear mz0 mz1 mz2
              obtain ⟨mz0, mz1, mz2⟩ := cells3 rz
              replace hB := below_later hB b14 (Nat.le_refl _)
              clear b14
              refine hK.out _ _ ⟨mz0, mz1, mz2⟩ (fun hHeld => ?_)
              clear hK K
              try simp only [Act.put, List.getElem_toArray, List.getElem_cons_zero, List.getElem_cons_succ, List.setIfInBounds_toArray, List.set_cons_zero, List.set_cons_succ]
              refine wpAnyH_ready (rs := [12]) (by kernel_rfl) (by simp) ?_
              refine AllReadyH.cons rfl (fun K hK => ?_) ?_
              · rw [if_pos (by rfl)]
                refine wp_app2 _ (.tmp 59) (.tmp 61) _ (by rfl) 3 i0 (.int .i64 0) 1 8 Try.underlying23 hi0 hz0 hz1 hz2 rfl (by decide) _ _ _ _ _ _ (by rfl) oe _ _ _ _ _ (by rfl) ((show Sees _ _ 1 Al 0 0 (ints (L0.drop 1)) by have q := ol.sees.tail 1 (by omega) Al (fun h => absurd rfl h); rwa [show L0.length - 1 = 0 from by omega] at q)) (ints_one _) (by omega) (by omega) (by omega) ?_
                intro Ap cp w15 l15 h15 op d15 f15
                have s15 := f15.size
                rw [HD.out] at op
                replace ot := ot.fr f15 (by omega)
                replace ox := ox.fr f15 (by omega)
                replace oz := oz.fr f15 (by omega)
                replace ol := ol.fr f15 (by omega)
                replace oq := oq.fr f15 (by omega)
                replace om := om.fr f15 (by omega)
                replace rt := rowFr rt f15 (by omega)
                clear mt0 mt1 mt2
                obtain ⟨mt0, mt1, mt2⟩ := cells3 rt
                replace rx := rowFr rx f15 (by omega)
                clear mx0 mx1 mx2
                obtain ⟨mx0, mx1, mx2⟩ := cells3 rx
                replace rz := rowFr rz f15 (by omega)
                clear mz0 mz1 mz2
                obtain ⟨mz0, mz1, mz2⟩ := cells3 rz
                replace hB := f15.below hB (by omega) (Nat.le_refl _)
                clear f15 oe
                generalize hnp : 0 + 0 = np at *
                have hnq : np ≤ 17 := by omega
                clear hnp
                refine hK.out _ _ ⟨mz0, mz1, mz2⟩ (fun hHeld => ?_)
                clear hK K
                try simp only [Act.put, List.getElem_toArray, List.getElem_cons_zero, List.getElem_cons_succ, List.setIfInBounds_toArray, List.set_cons_zero, List.set_cons_succ]
                refine wpAnyH_ready (rs := [15]) (by kernel_rfl) (by simp) ?_
                refine AllReadyH.cons rfl (fun K hK => ?_) ?_
                · rw [if_pos (by rfl)]
                  refine wp_app _ (.tmp 62) (.tmp 64) _ (by rfl) 3 i0 (.int .i64 0) 1 8 Try.underlying23 hi0 hz0 hz1 hz2 rfl (by decide) _ _ _ _ _ _ (by rfl) op _ _ _ _ _ (by rfl) (oq.sees) (one_int _) (by omega) (by omega) (by omega) ?_
                  intro As cs w16 os f16
                  have s16 := f16.size
                  rw [HAP.out] at os
                  replace ot := ot.fr f16 (by omega)
                  replace ox := ox.fr f16 (by omega)
                  replace oz := oz.fr f16 (by omega)
                  replace ol := ol.fr f16 (by omega)
                  replace oq := oq.fr f16 (by omega)
                  replace om := om.fr f16 (by omega)
                  replace rt := rowFr rt f16 (by omega)
                  clear mt0 mt1 mt2
                  obtain ⟨mt0, mt1, mt2⟩ := cells3 rt
                  replace rx := rowFr rx f16 (by omega)
                  clear mx0 mx1 mx2
                  obtain ⟨mx0, mx1, mx2⟩ := cells3 rx
                  replace rz := rowFr rz f16 (by omega)
                  clear mz0 mz1 mz2
                  obtain ⟨mz0, mz1, mz2⟩ := cells3 rz
                  replace hB := f16.below hB (by omega) (Nat.le_refl _)
                  clear f16 op
                  refine hK.out _ _ ⟨mz0, mz1, mz2⟩ (fun hHeld => ?_)
                  clear hK K
                  try simp only [Act.put, List.getElem_toArray, List.getElem_cons_zero, List.getElem_cons_succ, List.setIfInBounds_toArray, List.set_cons_zero, List.set_cons_succ]
                  refine wpAnyH_ready (rs := [16]) (by kernel_rfl) (by simp) ?_
                  refine AllReadyH.cons rfl (fun K hK => ?_) ?_
                  · go_simp
                    refine (sameInts_t _ _ _ _ _ _ _ _ L2 _ om.sees os.sees).mono ?_
                    rintro e w17 ⟨rfl, b17⟩
                    have s17 := b17.size
                    replace ot := ot.below b17
                    replace ox := ox.below b17
                    replace oz := oz.below b17
                    replace ol := ol.below b17
                    replace oq := oq.below b17
                    replace om := om.below b17
                    replace os := os.below b17
                    replace rt := rowKeep rt b17
                    clear mt0 mt1 mt2
                    obtain ⟨mt0, mt1, mt2⟩ := cells3 rt
                    replace rx := rowKeep rx b17
                    clear mx0 mx1 mx2
                    obtain ⟨mx0, mx1, mx2⟩ := cells3 rx
                    replace rz := rowKeep rz b17
                    clear mz0 mz1 mz2
                    obtain ⟨mz0, mz1, mz2⟩ := cells3 rz
                    replace hB := below_later hB b17 (Nat.le_refl _)
                    clear b17
                    refine hK.out _ _ ⟨mz0, mz1, mz2⟩ (fun hHeld => ?_)
                    clear hK K
                    try simp only [Act.put, List.getElem_toArray, List.getElem_cons_zero, List.getElem_cons_succ, List.setIfInBounds_toArray, List.set_cons_zero, List.set_cons_succ]
                    refine wpAnyH_take (i := 17) (v := ?_) rfl (by kernel_rfl) (by kernel_rfl) (by kernel_rfl) (fun _ _ _ h => h) (Or.inl ⟨by rfl, ?_⟩) (by assumption) ?_
                    rotate_left
                    · (intro wz hSw; (try dsimp only at hSw); go_simp; try with_reducible rfl)
                    simp only [Act.put, List.getElem_toArray, List.getElem_cons_zero, List.getElem_cons_succ, List.setIfInBounds_toArray, List.set_cons_zero, List.set_cons_succ]
                    refine wpAnyH_take (i := 18) (v := ?_) rfl (by kernel_rfl) (by kernel_rfl) (by kernel_rfl) (fun _ _ _ h => h) (Or.inl ⟨by rfl, ?_⟩) (by assumption) ?_
                    rotate_left
                    · (intro wz hSw; (try dsimp only at hSw); go_simp; try with_reducible rfl)
                    simp only [Act.put, List.getElem_toArray, List.getElem_cons_zero, List.getElem_cons_succ, List.setIfInBounds_toArray, List.set_cons_zero, List.set_cons_succ]
                    refine wpAnyH_done (by kernel_rfl) ?_ _
                    refine NoPanic.normal ?_
                    go_wp2_with fail
                    go_ret
                    exact ⟨rfl, hB⟩
                  exact AllReadyH.nil
                exact AllReadyH.nil
              exact AllReadyH.nil
            exact AllReadyH.nil
          exact AllReadyH.nil
        exact AllReadyH.nil
      · have hn11 : Below w10.heap.size w10 w10.drew := below_drewN (Below.refl _ _) 1
        have s11 : w10.heap.size ≤ w10.drew.heap.size := Nat.le_refl _
        replace ot := ot.below hn11
        replace ox := ox.below hn11
        replace oz := oz.below hn11
        replace ol := ol.below hn11
        replace rt := rowKeep rt hn11
        clear mt0 mt1 mt2
        obtain ⟨mt0, mt1, mt2⟩ := cells3 rt
        replace rx := rowKeep rx hn11
        clear mx0 mx1 mx2
        obtain ⟨mx0, mx1, mx2⟩ := cells3 rx
        replace rz := rowKeep rz hn11
        clear mz0 mz1 mz2
        obtain ⟨mz0, mz1, mz2⟩ := cells3 rz
        replace hB := below_later hB hn11 (Nat.le_refl _)
        clear hn11
        refine wp_region_noPanic ?_
        refine wp_region_held_drew (S := fun w' => w'.cell? ⟨w8.heap.size, 0, none⟩ = some (.slice Az zd.length cz) ∧ w'.cell? ⟨w8.heap.size, 1, none⟩ = some (.int .i64 zh) ∧ w'.cell? ⟨w8.heap.size, 2, none⟩ = some (.int .i64 zt)) (by kernel_rfl) ⟨mz0, mz1, mz2⟩ (fun hHeld => ?_)
        generalize w10.drew = u11 at *
        refine wpAnyH_take (i := 0) (v := ?_) rfl (by kernel_rfl) (by kernel_rfl) (by kernel_rfl) (fun _ _ _ h => h) (Or.inl ⟨by rfl, ?_⟩) (by assumption) ?_
        rotate_left
        · (intro wz hSw; (try dsimp only at hSw); go_simp; try with_reducible rfl)
        simp only [Act.put, List.getElem_toArray, List.getElem_cons_zero, List.getElem_cons_succ, List.setIfInBounds_toArray, List.set_cons_zero, List.set_cons_succ]
        refine wpAnyH_take (i := 1) (v := ?_) rfl (by kernel_rfl) (by kernel_rfl) (by kernel_rfl) (fun _ _ _ h => h) (Or.inl ⟨by rfl, ?_⟩) (by assumption) ?_
        rotate_left
        · (intro wz hSw; (try dsimp only at hSw); go_simp; try with_reducible rfl)
        simp only [Act.put, List.getElem_toArray, List.getElem_cons_zero, List.getElem_cons_succ, List.setIfInBounds_toArray, List.set_cons_zero, List.set_cons_succ]
        refine wpAnyH_take (i := 2) (v := ?_) rfl (by kernel_rfl) (by kernel_rfl) (by kernel_rfl) (fun _ _ _ h => h) (Or.inl ⟨by rfl, ?_⟩) (by assumption) ?_
        rotate_left
        · (intro wz hSw; (try dsimp only at hSw); go_simp; try with_reducible rfl)
        simp only [Act.put, List.getElem_toArray, List.getElem_cons_zero, List.getElem_cons_succ, List.setIfInBounds_toArray, List.set_cons_zero, List.set_cons_succ]
        refine wpAnyH_take (i := 3) (v := ?_) rfl (by kernel_rfl) (by kernel_rfl) (by kernel_rfl) (fun _ _ _ h => h) (Or.inl ⟨by rfl, ?_⟩) (by assumption) ?_
        rotate_left
        · (intro wz hSw; (try dsimp only at hSw); go_simp; try with_reducible rfl)
        simp only [Act.put, List.getElem_toArray, List.getElem_cons_zero, List.getElem_cons_succ, List.setIfInBounds_toArray, List.set_cons_zero, List.set_cons_succ]
        refine wpAnyH_take (i := 4) (v := ?_) rfl (by kernel_rfl) (by kernel_rfl) (by kernel_rfl) (fun _ _ _ h => h) (Or.inl ⟨by rfl, ?_⟩) (by assumption) ?_
        rotate_left
        · (intro wz hSw; (try dsimp only at hSw); go_simp; try with_reducible rfl)
        simp only [Act.put, List.getElem_toArray, List.getElem_cons_zero, List.getElem_cons_succ, List.setIfInBounds_toArray, List.set_cons_zero, List.set_cons_succ]
        refine wpAnyH_take (i := 5) (v := ?_) rfl (by kernel_rfl) (by kernel_rfl) (by kernel_rfl) (fun _ _ _ h => h) (Or.inl ⟨by rfl, ?_⟩) (by assumption) ?_
        rotate_left
        · (intro wz hSw; (try dsimp only at hSw); go_simp; try with_reducible rfl)
        simp only [Act.put, List.getElem_toArray, List.getElem_cons_zero, List.getElem_cons_succ, List.setIfInBounds_toArray, List.set_cons_zero, List.set_cons_succ]
        refine wpAnyH_take (i := 6) (v := ?_) rfl (by kernel_rfl) (by kernel_rfl) (by kernel_rfl) (fun _ _ _ h => h) (Or.inl ⟨by rfl, ?_⟩) (by assumption) ?_
        rotate_left
        · (intro wz hSw; (try dsimp only at hSw); go_simp; try with_reducible rfl)
        simp only [Act.put, List.getElem_toArray, List.getElem_cons_zero, List.getElem_cons_succ, List.setIfInBounds_toArray, List.set_cons_zero, List.set_cons_succ]
        refine wpAnyH_take (i := 7) (v := ?_) rfl (by kernel_rfl) (by kernel_rfl) (by kernel_rfl) (fun _ _ _ h => h) (Or.inl ⟨by rfl, ?_⟩) (by assumption) ?_
        rotate_left
        · (intro wz hSw; (try dsimp only at hSw); go_simp; try with_reducible rfl)
        simp only [Act.put, List.getElem_toArray, List.getElem_cons_zero, List.getElem_cons_succ, List.setIfInBounds_toArray, List.set_cons_zero, List.set_cons_succ]
        refine wpAnyH_take (i := 10) (v := ?_) rfl (by kernel_rfl) (by kernel_rfl) (by kernel_rfl) (fun _ _ _ h => h) (Or.inl ⟨by rfl, ?_⟩) (by assumption) ?_
        rotate_left
        · (intro wz hSw; (try dsimp only at hSw); go_simp; try with_reducible rfl)
        simp only [Act.put, List.getElem_toArray, List.getElem_cons_zero, List.getElem_cons_succ, List.setIfInBounds_toArray, List.set_cons_zero, List.set_cons_succ]
        refine wpAnyH_take (i := 11) (v := ?_) rfl (by kernel_rfl) (by kernel_rfl) (by kernel_rfl) (fun _ _ _ h => h) (Or.inl ⟨by rfl, ?_⟩) (by assumption) ?_
        rotate_left
        · (intro wz hSw; (try dsimp only at hSw); go_simp; try with_reducible rfl)
        simp only [Act.put, List.getElem_toArray, List.getElem_cons_zero, List.getElem_cons_succ, List.setIfInBounds_toArray, List.set_cons_zero, List.set_cons_succ]
        refine wpAnyH_take (i := 13) (v := ?_) rfl (by kernel_rfl) (by kernel_rfl) (by kernel_rfl) (fun _ _ _ h => h) (Or.inl ⟨by rfl, ?_⟩) (by assumption) ?_
        rotate_left
        · (intro wz hSw; (try dsimp only at hSw); go_simp; try with_reducible rfl)
        simp only [Act.put, List.getElem_toArray, List.getElem_cons_zero, List.getElem_cons_succ, List.setIfInBounds_toArray, List.set_cons_zero, List.set_cons_succ]
        refine wpAnyH_ready (rs := [8, 9, 14]) (by kernel_rfl) (by simp) ?_
        refine AllReadyH.cons rfl (fun K hK => ?_) ?_
        · go_simp
          have q := implRingList_any Az zd.length cz _ zd zh zt _ oz.sees (by omega)
          rw [HZL.out] at q
          refine q.mono ?_
          clear q
          rintro e w12 ⟨Am, cm, rfl, om, b12⟩
          have s12 := b12.size
          replace ot := ot.below b12
          replace ox := ox.below b12
          replace oz := oz.below b12
          replace ol := ol.below b12
          replace rt := rowKeep rt b12
          clear mt0 mt1 mt2
          obtain ⟨mt0, mt1, mt2⟩ := cells3 rt
          replace rx := rowKeep rx b12
          clear mx0 mx1 mx2
          obtain ⟨mx0, mx1, mx2⟩ := cells3 rx
          replace rz := rowKeep rz b12
          clear mz0 mz1 mz2
          obtain ⟨mz0, mz1, mz2⟩ := cells3 rz
          replace hB := below_later hB b12 (Nat.le_refl _)
          clear b12
          refine hK.out _ _ ⟨mz0, mz1, mz2⟩ (fun hHeld => ?_)
          clear hK K
          try simp only [Act.put, List.getElem_toArray, List.getElem_cons_zero, List.getElem_cons_succ, List.setIfInBounds_toArray, List.set_cons_zero, List.set_cons_succ]
          refine wpAnyH_ready (rs := [9, 14]) (by kernel_rfl) (by simp) ?_
          refine AllReadyH.cons rfl (fun K hK => ?_) ?_
          · go_simp
            have hn13 := below_new w12 (.cells #[] 3)
            have oe := newEmpty w12 3 1
            replace ot := ot.below hn13
            replace ox := ox.below hn13
            replace oz := oz.below hn13
            replace ol := ol.below hn13
            replace om := om.below hn13
            replace rt := rowKeep rt hn13
            clear mt0 mt1 mt2
            obtain ⟨mt0, mt1, mt2⟩ := cells3 rt
            replace rx := rowKeep rx hn13
            clear mx0 mx1 mx2
            obtain ⟨mx0, mx1, mx2⟩ := cells3 rx
            replace rz := rowKeep rz hn13
            clear mz0 mz1 mz2
            obtain ⟨mz0, mz1, mz2⟩ := cells3 rz
            replace hB := below_later hB hn13 (Nat.le_refl _)
            clear hn13
            have s13 : w12.heap.size + 1 ≤ (w12.alloc (.cells #[] 3)).heap.size := by rw [World.size_alloc]; exact Nat.le_refl _
            generalize (w12.alloc (.cells #[] 3)) = u13 at *
            refine hK.out _ _ ⟨mz0, mz1, mz2⟩ (fun hHeld => ?_)
            clear hK K
            try simp only [Act.put, List.getElem_toArray, List.getElem_cons_zero, List.getElem_cons_succ, List.setIfInBounds_toArray, List.set_cons_zero, List.set_cons_succ]
            refine wpAnyH_ready (rs := [12, 14]) (by kernel_rfl) (by simp) ?_
            refine AllReadyH.cons rfl (fun K hK => ?_) ?_
            · rw [if_pos (by rfl)]
              refine wp_app2 _ (.tmp 59) (.tmp 61) _ (by rfl) 3 i0 (.int .i64 0) 1 8 Try.underlying23 hi0 hz0 hz1 hz2 rfl (by decide) _ _ _ _ _ _ (by rfl) oe _ _ _ _ _ (by rfl) (ol.sees.tail 1 (by omega) _ (fun _ => rfl)) (ints_one _) (by omega) (by omega) (by omega) ?_
              intro Ap cp w14 l14 h14 op d14 f14
              have s14 := f14.size
              rw [HD.out] at op
              replace ot := ot.fr f14 (by omega)
              replace ox := ox.fr f14 (by omega)
              replace oz := oz.fr f14 (by omega)
              replace ol := ol.fr f14 (by omega)
              replace om := om.fr f14 (by omega)
              replace rt := rowFr rt f14 (by omega)
              clear mt0 mt1 mt2
              obtain ⟨mt0, mt1, mt2⟩ := cells3 rt
              replace rx := rowFr rx f14 (by omega)
              clear mx0 mx1 mx2
              obtain ⟨mx0, mx1, mx2⟩ := cells3 rx
              replace rz := rowFr rz f14 (by omega)
              clear mz0 mz1 mz2
              obtain ⟨mz0, mz1, mz2⟩ := cells3 rz
              replace hB := f14.below hB (by omega) (Nat.le_refl _)
              clear f14 oe
              generalize hnp : 0 + (L0.length - 1) = np at *
              have hnq : np ≤ 17 := by omega
              clear hnp
              refine hK.out _ _ ⟨mz0, mz1, mz2⟩ (fun hHeld => ?_)
              clear hK K
              try simp only [Act.put, List.getElem_toArray, List.getElem_cons_zero, List.getElem_cons_succ, List.setIfInBounds_toArray, List.set_cons_zero, List.set_cons_succ]
              refine wpAnyH_ready (rs := [14]) (by kernel_rfl) (by simp) ?_
              refine AllReadyH.cons rfl (fun K hK => ?_) ?_
              · go_simp
                have hn15 := below_new w14 (.cells #[.int .i64 top] 3)
                have oq := newOne w14 3 (.int .i64 top)
                replace ot := ot.below hn15
                replace ox := ox.below hn15
                replace oz := oz.below hn15
                replace ol := ol.below hn15
                replace om := om.below hn15
                replace op := op.below hn15
                replace rt := rowKeep rt hn15
                clear mt0 mt1 mt2
                obtain ⟨mt0, mt1, mt2⟩ := cells3 rt
                replace rx := rowKeep rx hn15
                clear mx0 mx1 mx2
                obtain ⟨mx0, mx1, mx2⟩ := cells3 rx
                replace rz := rowKeep rz hn15
                clear mz0 mz1 mz2
                obtain ⟨mz0, mz1, mz2⟩ := cells3 rz
                replace hB := below_later hB hn15 (Nat.le_refl _)
                clear hn15
                have s15 : w14.heap.size + 1 ≤ (w14.alloc (.cells #[.int .i64 top] 3)).heap.size := by rw [World.size_alloc]; exact Nat.le_refl _
                generalize (w14.alloc (.cells #[.int .i64 top] 3)) = u15 at *
                refine hK.out _ _ ⟨mz0, mz1, mz2⟩ (fun hHeld => ?_)
                clear hK K
                try simp only [Act.put, List.getElem_toArray, List.getElem_cons_zero, List.getElem_cons_succ, List.setIfInBounds_toArray, List.set_cons_zero, List.set_cons_succ]
                refine wpAnyH_ready (rs := [15]) (by kernel_rfl) (by simp) ?_
                refine AllReadyH.cons rfl (fun K hK => ?_) ?_
                · rw [if_pos (by rfl)]
                  refine wp_app _ (.tmp 62) (.tmp 64) _ (by rfl) 3 i0 (.int .i64 0) 1 8 Try.underlying23 hi0 hz0 hz1 hz2 rfl (by decide) _ _ _ _ _ _ (by rfl) op _ _ _ _ _ (by rfl) (oq.sees) (one_int _) (by omega) (by omega) (by omega) ?_
                  intro As cs w16 os f16
                  have s16 := f16.size
                  rw [HAP.out] at os
                  replace ot := ot.fr f16 (by omega)
                  replace ox := ox.fr f16 (by omega)
                  replace oz := oz.fr f16 (by omega)
                  replace ol := ol.fr f16 (by omega)
                  replace om := om.fr f16 (by omega)
                  replace oq := oq.fr f16 (by omega)
                  replace rt := rowFr rt f16 (by omega)
                  clear mt0 mt1 mt2
                  obtain ⟨mt0, mt1, mt2⟩ := cells3 rt
                  replace rx := rowFr rx f16 (by omega)
                  clear mx0 mx1 mx2
                  obtain ⟨mx0, mx1, mx2⟩ := cells3 rx
                  replace rz := rowFr rz f16 (by omega)
                  clear mz0 mz1 mz2
                  obtain ⟨mz0, mz1, mz2⟩ := cells3 rz
                  replace hB := f16.below hB (by omega) (Nat.le_refl _)
                  clear f16 op
                  refine hK.out _ _ ⟨mz0, mz1, mz2⟩ (fun hHeld => ?_)
                  clear hK K
                  try simp only [Act.put, List.getElem_toArray, List.getElem_cons_zero, List.getElem_cons_succ, List.setIfInBounds_toArray, List.set_cons_zero, List.set_cons_succ]
                  refine wpAnyH_ready (rs := [16]) (by kernel_rfl) (by simp) ?_
                  refine AllReadyH.cons rfl (fun K hK => ?_) ?_
                  · go_simp
                    refine (sameInts_t _ _ _ _ _ _ _ _ L2 _ om.sees os.sees).mono ?_
                    rintro e w17 ⟨rfl, b17⟩
                    have s17 := b17.size
                    replace ot := ot.below b17
                    replace ox := ox.below b17
                    replace oz := oz.below b17
                    replace ol := ol.below b17
                    replace om := om.below b17
                    replace oq := oq.below b17
                    replace os := os.below b17
                    replace rt := rowKeep rt b17
                    clear mt0 mt1 mt2
                    obtain ⟨mt0, mt1, mt2⟩ := cells3 rt
                    replace rx := rowKeep rx b17
                    clear mx0 mx1 mx2
                    obtain ⟨mx0, mx1, mx2⟩ := cells3 rx
                    replace rz := rowKeep rz b17
                    clear mz0 mz1 mz2
                    obtain ⟨mz0, mz1, mz2⟩ := cells3 rz
                    replace hB := below_later hB b17 (Nat.le_refl _)
                    clear b17
                    refine hK.out _ _ ⟨mz0, mz1, mz2⟩ (fun hHeld => ?_)
                    clear hK K
                    try simp only [Act.put, List.getElem_toArray, List.getElem_cons_zero, List.getElem_cons_succ, List.setIfInBounds_toArray, List.set_cons_zero, List.set_cons_succ]
                    refine wpAnyH_take (i := 17) (v := ?_) rfl (by kernel_rfl) (by kernel_rfl) (by kernel_rfl) (fun _ _ _ h => h) (Or.inl ⟨by rfl, ?_⟩) (by assumption) ?_
                    rotate_left
                    · (intro wz hSw; (try dsimp only at hSw); go_simp; try with_reducible rfl)
                    simp only [Act.put, List.getElem_toArray, List.getElem_cons_zero, List.getElem_cons_succ, List.setIfInBounds_toArray, List.set_cons_zero, List.set_cons_succ]
                    refine wpAnyH_take (i := 18) (v := ?_) rfl (by kernel_rfl) (by kernel_rfl) (by kernel_rfl) (fun _ _ _ h => h) (Or.inl ⟨by rfl, ?_⟩) (by assumption) ?_
                    rotate_left
                    · (intro wz hSw; (try dsimp only at hSw); go_simp; try with_reducible rfl)
                    simp only [Act.put, List.getElem_toArray, List.getElem_cons_zero, List.getElem_cons_succ, List.setIfInBounds_toArray, List.set_cons_zero, List.set_cons_succ]
                    refine wpAnyH_done (by kernel_rfl) ?_ _
                    refine NoPanic.normal ?_
                    go_wp2_with fail
                    go_ret
                    exact ⟨rfl, hB⟩
                  exact AllReadyH.nil
                exact AllReadyH.nil
              exact AllReadyH.nil
            refine AllReadyH.cons rfl (fun K hK => ?_) ?_
            · go_simp
              have hn14 := below_new u13 (.cells #[.int .i64 top] 3)
              have oq := newOne u13 3 (.int .i64 top)
              replace ot := ot.below hn14
              replace ox := ox.below hn14
              replace oz := oz.below hn14
              replace ol := ol.below hn14
              replace om := om.below hn14
              replace oe := oe.below hn14
              replace rt := rowKeep rt hn14
              clear mt0 mt1 mt2
              obtain ⟨mt0, mt1, mt2⟩ := cells3 rt
              replace rx := rowKeep rx hn14
              clear mx0 mx1 mx2
              obtain ⟨mx0, mx1, mx2⟩ := cells3 rx
              replace rz := rowKeep rz hn14
              clear mz0 mz1 mz2
              obtain ⟨mz0, mz1, mz2⟩ := cells3 rz
              replace hB := below_later hB hn14 (Nat.le_refl _)
              clear hn14
              have s14 : u13.heap.size + 1 ≤ (u13.alloc (.cells #[.int .i64 top] 3)).heap.size := by rw [World.size_alloc]; exact Nat.le_refl _
              generalize (u13.alloc (.cells #[.int .i64 top] 3)) = u14 at *
              refine hK.out _ _ ⟨mz0, mz1, mz2⟩ (fun hHeld => ?_)
              clear hK K
              try simp only [Act.put, List.getElem_toArray, List.getElem_cons_zero, List.getElem_cons_succ, List.setIfInBounds_toArray, List.set_cons_zero, List.set_cons_succ]
              refine wpAnyH_ready (rs := [12]) (by kernel_rfl) (by simp) ?_
              refine AllReadyH.cons rfl (fun K hK => ?_) ?_
              · rw [if_pos (by rfl)]
                refine wp_app2 _ (.tmp 59) (.tmp 61) _ (by rfl) 3 i0 (.int .i64 0) 1 8 Try.underlying23 hi0 hz0 hz1 hz2 rfl (by decide) _ _ _ _ _ _ (by rfl) oe _ _ _ _ _ (by rfl) (ol.sees.tail 1 (by omega) _ (fun _ => rfl)) (ints_one _) (by omega) (by omega) (by omega) ?_
                intro Ap cp w15 l15 h15 op d15 f15
                have s15 := f15.size
                rw [HD.out] at op
                replace ot := ot.fr f15 (by omega)
                replace ox := ox.fr f15 (by omega)
                replace oz := oz.fr f15 (by omega)
                replace ol := ol.fr f15 (by omega)
                replace om := om.fr f15 (by omega)
                replace oq := oq.fr f15 (by omega)
                replace rt := rowFr rt f15 (by omega)
                clear mt0 mt1 mt2
                obtain ⟨mt0, mt1, mt2⟩ := cells3 rt
                replace rx := rowFr rx f15 (by omega)
                clear mx0 mx1 mx2
                obtain ⟨mx0, mx1, mx2⟩ := cells3 rx
                replace rz := rowFr rz f15 (by omega)
                clear mz0 mz1 mz2
                obtain ⟨mz0, mz1, mz2⟩ := cells3 rz
                replace hB := f15.below hB (by omega) (Nat.le_refl _)
                clear f15 oe
                generalize hnp : 0 + (L0.length - 1) = np at *
                have hnq : np ≤ 17 := by omega
                clear hnp
                refine hK.out _ _ ⟨mz0, mz1, mz2⟩ (fun hHeld => ?_)
                clear hK K
                try simp only [Act.put, List.getElem_toArray, List.getElem_cons_zero, List.getElem_cons_succ, List.setIfInBounds_toArray, List.set_cons_zero, List.set_cons_succ]
                refine wpAnyH_ready (rs := [15]) (by kernel_rfl) (by simp) ?_
                refine AllReadyH.cons rfl (fun K hK => ?_) ?_
                · rw [if_pos (by rfl)]
                  refine wp_app _ (.tmp 62) (.tmp 64) _ (by rfl) 3 i0 (.int .i64 0) 1 8 Try.underlying23 hi0 hz0 hz1 hz2 rfl (by decide) _ _ _ _ _ _ (by rfl) op _ _ _ _ _ (by rfl) (oq.sees) (one_int _) (by omega) (by omega) (by omega) ?_
                  intro As cs w16 os f16
                  have s16 := f16.size
                  rw [HAP.out] at os
                  replace ot := ot.fr f16 (by omega)
                  replace ox := ox.fr f16 (by omega)
                  replace oz := oz.fr f16 (by omega)
                  replace ol := ol.fr f16 (by omega)
                  replace om := om.fr f16 (by omega)
                  replace oq := oq.fr f16 (by omega)
                  replace rt := rowFr rt f16 (by omega)
                  clear mt0 mt1 mt2
                  obtain ⟨mt0, mt1, mt2⟩ := cells3 rt
                  replace rx := rowFr rx f16 (by omega)
                  clear mx0 mx1 mx2
                  obtain ⟨mx0, mx1, mx2⟩ := cells3 rx
                  replace rz := rowFr rz f16 (by omega)
                  clear mz0 mz1 mz2
                  obtain ⟨mz0, mz1, mz2⟩ := cells3 rz
                  replace hB := f16.below hB (by omega) (Nat.le_refl _)
                  clear f16 op
                  refine hK.out _ _ ⟨mz0, mz1, mz2⟩ (fun hHeld => ?_)
                  clear hK K
                  try simp only [Act.put, List.getElem_toArray, List.getElem_cons_zero, List.getElem_cons_succ, List.setIfInBounds_toArray, List.set_cons_zero, List.set_cons_succ]
                  refine wpAnyH_ready (rs := [16]) (by kernel_rfl) (by simp) ?_
                  refine AllReadyH.cons rfl (fun K hK => ?_) ?_
                  · go_simp
                    refine (sameInts_t _ _ _ _ _ _ _ _ L2 _ om.sees os.sees).mono ?_
                    rintro e w17 ⟨rfl, b17⟩
                    have s17 := b17.size
                    replace ot := ot.below b17
                    replace ox := ox.below b17
                    replace oz := oz.below b17
                    replace ol := ol.below b17
                    replace om := om.below b17
                    replace oq := oq.below b17
                    replace os := os.below b17
                    replace rt := rowKeep rt b17
                    clear mt0 mt1 mt2
                    obtain ⟨mt0, mt1, mt2⟩ := cells3 rt
                    replace rx := rowKeep rx b17
                    clear mx0 mx1 mx2
                    obtain ⟨mx0, mx1, mx2⟩ := cells3 rx
                    replace rz := rowKeep rz b17
                    clear mz0 mz1 mz2
                    obtain ⟨mz0, mz1, mz2⟩ := cells3 rz
                    replace hB := below_later hB b17 (Nat.le_refl _)
                    clear b17
                    refine hK.out _ _ ⟨mz0, mz1, mz2⟩ (fun hHeld => ?_)
                    clear hK K
                    try simp only [Act.put, List.getElem_toArray, List.getElem_cons_zero, List.getElem_cons_succ, List.setIfInBounds_toArray, List.set_cons_zero, List.set_cons_succ]
                    refine wpAnyH_take (i := 17) (v := ?_) rfl (by kernel_rfl) (by kernel_rfl) (by kernel_rfl) (fun _ _ _ h => h) (Or.inl ⟨by rfl, ?_⟩) (by assumption) ?_
                    rotate_left
                    · (intro wz hSw; (try dsimp only at hSw); go_simp; try with_reducible rfl)
                    simp only [Act.put, List.getElem_toArray, List.getElem_cons_zero, List.getElem_cons_succ, List.setIfInBounds_toArray, List.set_cons_zero, List.set_cons_succ]
                    refine wpAnyH_take (i := 18) (v := ?_) rfl (by kernel_rfl) (by kernel_rfl) (by kernel_rfl) (fun _ _ _ h => h) (Or.inl ⟨by rfl, ?_⟩) (by assumption) ?_
                    rotate_left
                    · (intro wz hSw; (try dsimp only at hSw); go_simp; try with_reducible rfl)
                    simp only [Act.put, List.getElem_toArray, List.getElem_cons_zero, List.getElem_cons_succ, List.setIfInBounds_toArray, List.set_cons_zero, List.set_cons_succ]
                    refine wpAnyH_done (by kernel_rfl) ?_ _
                    refine NoPanic.normal ?_
                    go_wp2_with fail
                    go_ret
                    exact ⟨rfl, hB⟩
                  exact AllReadyH.nil
                exact AllReadyH.nil
              exact AllReadyH.nil
            exact AllReadyH.nil
          refine AllReadyH.cons rfl (fun K hK => ?_) ?_
          · go_simp
            have hn13 := below_new w12 (.cells #[.int .i64 top] 3)
            have oq := newOne w12 3 (.int .i64 top)
            replace ot := ot.below hn13
            replace ox := ox.below hn13
            replace oz := oz.below hn13
            replace ol := ol.below hn13
            replace om := om.below hn13
            replace rt := rowKeep rt hn13
            clear mt0 mt1 mt2
            obtain ⟨mt0, mt1, mt2⟩ := cells3 rt
            replace rx := rowKeep rx hn13
            clear mx0 mx1 mx2
            obtain ⟨mx0, mx1, mx2⟩ := cells3 rx
            replace rz := rowKeep rz hn13
            clear mz0 mz1 mz2
            obtain ⟨mz0, mz1, mz2⟩ := cells3 rz
            replace hB := below_later hB hn13 (Nat.le_refl _)
            clear hn13
            have s13 : w12.heap.size + 1 ≤ (w12.alloc (.cells #[.int .i64 top] 3)).heap.size := by rw [World.size_alloc]; exact Nat.le_refl _
            generalize (w12.alloc (.cells #[.int .i64 top] 3)) = u13 at *
            refine hK.out _ _ ⟨mz0, mz1, mz2⟩ (fun hHeld => ?_)
            clear hK K
            try simp only [Act.put, List.getElem_toArray, List.getElem_cons_zero, List.getElem_cons_succ, List.setIfInBounds_toArray, List.set_cons_zero, List.set_cons_succ]
            refine wpAnyH_ready (rs := [9]) (by kernel_rfl) (by simp) ?_
            refine AllReadyH.cons rfl (fun K hK => ?_) ?_
            · go_simp
              have hn14 := below_new u13 (.cells #[] 3)
              have oe := newEmpty u13 3 1
              replace ot := ot.below hn14
              replace ox := ox.below hn14
              replace oz := oz.below hn14
              replace ol := ol.below hn14
              replace om := om.below hn14
              replace oq := oq.below hn14
              replace rt := rowKeep rt hn14
              clear mt0 mt1 mt2
              obtain ⟨mt0, mt1, mt2⟩ := cells3 rt
              replace rx := rowKeep rx hn14
              clear mx0 mx1 mx2
              obtain ⟨mx0, mx1, mx2⟩ := cells3 rx
              replace rz := rowKeep rz hn14
              clear mz0 mz1 mz2
              obtain ⟨mz0, mz1, mz2⟩ := cells3 rz
              replace hB := below_later hB hn14 (Nat.le_refl _)
              clear hn14
              have s14 : u13.heap.size + 1 ≤ (u13.alloc (.cells #[] 3)).heap.size := by rw [World.size_alloc]; exact Nat.le_refl _
              generalize (u13.alloc (.cells #[] 3)) = u14 at *
              refine hK.out _ _ ⟨mz0, mz1, mz2⟩ (fun hHeld => ?_)
              clear hK K
              try simp only [Act.put, List.getElem_toArray, List.getElem_cons_zero, List.getElem_cons_succ, List.setIfInBounds_toArray, List.set_cons_zero, List.set_cons_succ]
              refine wpAnyH_ready (rs := [12]) (by kernel_rfl) (by simp) ?_
              refine AllReadyH.cons rfl (fun K hK => ?_) ?_
              · rw [if_pos (by rfl)]
                refine wp_app2 _ (.tmp 59) (.tmp 61) _ (by rfl) 3 i0 (.int .i64 0) 1 8 Try.underlying23 hi0 hz0 hz1 hz2 rfl (by decide) _ _ _ _ _ _ (by rfl) oe _ _ _ _ _ (by rfl) (ol.sees.tail 1 (by omega) _ (fun _ => rfl)) (ints_one _) (by omega) (by omega) (by omega) ?_
                intro Ap cp w15 l15 h15 op d15 f15
                have s15 := f15.size
                rw [HD.out] at op
                replace ot := ot.fr f15 (by omega)
                replace ox := ox.fr f15 (by omega)
                replace oz := oz.fr f15 (by omega)
                replace ol := ol.fr f15 (by omega)
                replace om := om.fr f15 (by omega)
                replace oq := oq.fr f15 (by omega)
                replace rt := rowFr rt f15 (by omega)
                clear mt0 mt1 mt2
                obtain ⟨mt0, mt1, mt2⟩ := cells3 rt
                replace rx := rowFr rx f15 (by omega)
                clear mx0 mx1 mx2
                obtain ⟨mx0, mx1, mx2⟩ := cells3 rx
                replace rz := rowFr rz f15 (by omega)
                clear mz0 mz1 mz2
                obtain ⟨mz0, mz1, mz2⟩ := cells3 rz
                replace hB := f15.below hB (by omega) (Nat.le_refl _)
                clear f15 oe
                generalize hnp : 0 + (L0.length - 1) = np at *
                have hnq : np ≤ 17 := by omega
                clear hnp
                refine hK.out _ _ ⟨mz0, mz1, mz2⟩ (fun hHeld => ?_)
                clear hK K
                try simp only [Act.put, List.getElem_toArray, List.getElem_cons_zero, List.getElem_cons_succ, List.setIfInBounds_toArray, List.set_cons_zero, List.set_cons_succ]
                refine wpAnyH_ready (rs := [15]) (by kernel_rfl) (by simp) ?_
                refine AllReadyH.cons rfl (fun K hK => ?_) ?_
                · rw [if_pos (by rfl)]
                  refine wp_app _ (.tmp 62) (.tmp 64) _ (by rfl) 3 i0 (.int .i64 0) 1 8 Try.underlying23 hi0 hz0 hz1 hz2 rfl (by decide) _ _ _ _ _ _ (by rfl) op _ _ _ _ _ (by rfl) (oq.sees) (one_int _) (by omega) (by omega) (by omega) ?_
                  intro As cs w16 os f16
                  have s16 := f16.size
                  rw [HAP.out] at os
                  replace ot := ot.fr f16 (by omega)
                  replace ox := ox.fr f16 (by omega)
                  replace oz := oz.fr f16 (by omega)
                  replace ol := ol.fr f16 (by omega)
                  replace om := om.fr f16 (by omega)
                  replace oq := oq.fr f16 (by omega)
                  replace rt := rowFr rt f16 (by omega)
                  clear mt0 mt1 mt2
                  obtain ⟨mt0, mt1, mt2⟩ := cells3 rt
                  replace rx := rowFr rx f16 (by omega)
                  clear mx0 mx1 mx2
                  obtain ⟨mx0, mx1, mx2⟩ := cells3 rx
                  replace rz := rowFr rz f16 (by omega)
                  clear mz0 mz1 mz2
                  obtain ⟨mz0, mz1, mz2⟩ := cells3 rz
                  replace hB := f16.below hB (by omega) (Nat.le_refl _)
                  clear f16 op
                  refine hK.out _ _ ⟨mz0, mz1, mz2⟩ (fun hHeld => ?_)
                  clear hK K
                  try simp only [Act.put, List.getElem_toArray, List.getElem_cons_zero, List.getElem_cons_succ, List.setIfInBounds_toArray, List.set_cons_zero, List.set_cons_succ]
                  refine wpAnyH_ready (rs := [16]) (by kernel_rfl) (by simp) ?_
                  refine AllReadyH.cons rfl (fun K hK => ?_) ?_
                  · go_simp
                    refine (sameInts_t _ _ _ _ _ _ _ _ L2 _ om.sees os.sees).mono ?_
                    rintro e w17 ⟨rfl, b17⟩
                    have s17 := b17.size
                    replace ot := ot.below b17
                    replace ox := ox.below b17
                    replace oz := oz.below b17
                    replace ol := ol.below b17
                    replace om := om.below b17
                    replace oq := oq.below b17
                    replace os := os.below b17
                    replace rt := rowKeep rt b17
                    clear mt0 mt1 mt2
                    obtain ⟨mt0, mt1, mt2⟩ := cells3 rt
                    replace rx := rowKeep rx b17
                    clear mx0 mx1 mx2
                    obtain ⟨mx0, mx1, mx2⟩ := cells3 rx
                    replace rz := rowKeep rz b17
                    clear mz0 mz1 mz2
                    obtain ⟨mz0, mz1, mz2⟩ := cells3 rz
                    replace hB := below_later hB b17 (Nat.le_refl _)
                    clear b17
                    refine hK.out _ _ ⟨mz0, mz1, mz2⟩ (fun hHeld => ?_)
                    clear hK K
                    try simp only [Act.put, List.getElem_toArray, List.getElem_cons_zero, List.getElem_cons_succ, List.setIfInBounds_toArray, List.set_cons_zero, List.set_cons_succ]
                    refine wpAnyH_take (i := 17) (v := ?_) rfl (by kernel_rfl) (by kernel_rfl) (by kernel_rfl) (fun _ _ _ h => h) (Or.inl ⟨by rfl, ?_⟩) (by assumption) ?_
                    rotate_left
                    · (intro wz hSw; (try dsimp only at hSw); go_simp; try with_reducible rfl)
                    simp only [Act.put, List.getElem_toArray, List.getElem_cons_zero, List.getElem_cons_succ, List.setIfInBounds_toArray, List.set_cons_zero, List.set_cons_succ]
                    refine wpAnyH_take (i := 18) (v := ?_) rfl (by kernel_rfl) (by kernel_rfl) (by kernel_rfl) (fun _ _ _ h => h) (Or.inl ⟨by rfl, ?_⟩) (by assumption) ?_
                    rotate_left
                    · (intro wz hSw; (try dsimp only at hSw); go_simp; try with_reducible rfl)
                    simp only [Act.put, List.getElem_toArray, List.getElem_cons_zero, List.getElem_cons_succ, List.setIfInBounds_toArray, List.set_cons_zero, List.set_cons_succ]
                    refine wpAnyH_done (by kernel_rfl) ?_ _
                    refine NoPanic.normal ?_
                    go_wp2_with fail
                    go_ret
                    exact ⟨rfl, hB⟩
                  exact AllReadyH.nil
                exact AllReadyH.nil
              exact AllReadyH.nil
            exact AllReadyH.nil
          exact AllReadyH.nil
        refine AllReadyH.cons rfl (fun K hK => ?_) ?_
        · go_simp
          have hn12 := below_new u11 (.cells #[] 3)
          have oe := newEmpty u11 3 1
          replace ot := ot.below hn12
          replace ox := ox.below hn12
          replace oz := oz.below hn12
          replace ol := ol.below hn12
          replace rt := rowKeep rt hn12
          clear mt0 mt1 mt2
          obtain ⟨mt0, mt1, mt2⟩ := cells3 rt
          replace rx := rowKeep rx hn12
          clear mx0 mx1 mx2
          obtain ⟨mx0, mx1, mx2⟩ := cells3 rx
          replace rz := rowKeep rz hn12
          clear mz0 mz1 mz2
          obtain ⟨mz0, mz1, mz2⟩ := cells3 rz
          replace hB := below_later hB hn12 (Nat.le_refl _)
          clear hn12
          have s12 : u11.heap.size + 1 ≤ (u11.alloc (.cells #[] 3)).heap.size := by rw [World.size_alloc]; exact Nat.le_refl _
          generalize (u11.alloc (.cells #[] 3)) = u12 at *
          refine hK.out _ _ ⟨mz0, mz1, mz2⟩ (fun hHeld => ?_)
          clear hK K
          try simp only [Act.put, List.getElem_toArray, List.getElem_cons_zero, List.getElem_cons_succ, List.setIfInBounds_toArray, List.set_cons_zero, List.set_cons_succ]
          refine wpAnyH_ready (rs := [8, 14]) (by kernel_rfl) (by simp) ?_
          refine AllReadyH.cons rfl (fun K hK => ?_) ?_
          · go_simp
            have q := implRingList_any Az zd.length cz _ zd zh zt _ oz.sees (by omega)
            rw [HZL.out] at q
            refine q.mono ?_
            clear q
            rintro e w13 ⟨Am, cm, rfl, om, b13⟩
            have s13 := b13.size
            replace ot := ot.below b13
            replace ox := ox.below b13
            replace oz := oz.below b13
            replace ol := ol.below b13
            replace oe := oe.below b13
            replace rt := rowKeep rt b13
            clear mt0 mt1 mt2
            obtain ⟨mt0, mt1, mt2⟩ := cells3 rt
            replace rx := rowKeep rx b13
            clear mx0 mx1 mx2
            obtain ⟨mx0, mx1, mx2⟩ := cells3 rx
            replace rz := rowKeep rz b13
            clear mz0 mz1 mz2
            obtain ⟨mz0, mz1, mz2⟩ := cells3 rz
            replace hB := below_later hB b13 (Nat.le_refl _)
            clear b13
            refine hK.out _ _ ⟨mz0, mz1, mz2⟩ (fun hHeld => ?_)
            clear hK K
            try simp only [Act.put, List.getElem_toArray, List.getElem_cons_zero, List.getElem_cons_succ, List.setIfInBounds_toArray, List.set_cons_zero, List.set_cons_succ]
            refine wpAnyH_ready (rs := [12, 14]) (by kernel_rfl) (by simp) ?_
            refine AllReadyH.cons rfl (fun K hK => ?_) ?_
            · rw [if_pos (by rfl)]
              refine wp_app2 _ (.tmp 59) (.tmp 61) _ (by rfl) 3 i0 (.int .i64 0) 1 8 Try.underlying23 hi0 hz0 hz1 hz2 rfl (by decide) _ _ _ _ _ _ (by rfl) oe _ _ _ _ _ (by rfl) (ol.sees.tail 1 (by omega) _ (fun _ => rfl)) (ints_one _) (by omega) (by omega) (by omega) ?_
              intro Ap cp w14 l14 h14 op d14 f14
              have s14 := f14.size
              rw [HD.out] at op
              replace ot := ot.fr f14 (by omega)
              replace ox := ox.fr f14 (by omega)
              replace oz := oz.fr f14 (by omega)
              replace ol := ol.fr f14 (by omega)
              replace om := om.fr f14 (by omega)
              replace rt := rowFr rt f14 (by omega)
              clear mt0 mt1 mt2
              obtain ⟨mt0, mt1, mt2⟩ := cells3 rt
              replace rx := rowFr rx f14 (by omega)
              clear mx0 mx1 mx2
              obtain ⟨mx0, mx1, mx2⟩ := cells3 rx
              replace rz := rowFr rz f14 (by omega)
              clear mz0 mz1 mz2
              obtain ⟨mz0, mz1, mz2⟩ := cells3 rz
              replace hB := f14.below hB (by omega) (Nat.le_refl _)
              clear f14 oe
              generalize hnp : 0 + (L0.length - 1) = np at *
              have hnq : np ≤ 17 := by omega
              clear hnp
              refine hK.out _ _ ⟨mz0, mz1, mz2⟩ (fun hHeld => ?_)
              clear hK K
              try simp only [Act.put, List.getElem_toArray, List.getElem_cons_zero, List.getElem_cons_succ, List.setIfInBounds_toArray, List.set_cons_zero, List.set_cons_succ]
              refine wpAnyH_ready (rs := [14]) (by kernel_rfl) (by simp) ?_
              refine AllReadyH.cons rfl (fun K hK => ?_) ?_
              · go_simp
                have hn15 := below_new w14 (.cells #[.int .i64 top] 3)
                have oq := newOne w14 3 (.int .i64 top)
                replace ot := ot.below hn15
                replace ox := ox.below hn15
                replace oz := oz.below hn15
                replace ol := ol.below hn15
                replace om := om.below hn15
                replace op := op.below hn15
                replace rt := rowKeep rt hn15
                clear mt0 mt1 mt2
                obtain ⟨mt0, mt1, mt2⟩ := cells3 rt
                replace rx := rowKeep rx hn15
                clear mx0 mx1 mx2
                obtain ⟨mx0, mx1, mx2⟩ := cells3 rx
                replace rz := rowKeep rz hn15
                clear mz0 mz1 mz2
                obtain ⟨mz0, mz1, mz2⟩ := cells3 rz
                replace hB := below_later hB hn15 (Nat.le_refl _)
                clear hn15
                have s15 : w14.heap.size + 1 ≤ (w14.alloc (.cells #[.int .i64 top] 3)).heap.size := by rw [World.size_alloc]; exact Nat.le_refl _
                generalize (w14.alloc (.cells #[.int .i64 top] 3)) = u15 at *
                refine hK.out _ _ ⟨mz0, mz1, mz2⟩ (fun hHeld => ?_)
                clear hK K
                try simp only [Act.put, List.getElem_toArray, List.getElem_cons_zero, List.getElem_cons_succ, List.setIfInBounds_toArray, List.set_cons_zero, List.set_cons_succ]
                refine wpAnyH_ready (rs := [15]) (by kernel_rfl) (by simp) ?_
                refine AllReadyH.cons rfl (fun K hK => ?_) ?_
                · rw [if_pos (by rfl)]
                  refine wp_app _ (.tmp 62) (.tmp 64) _ (by rfl) 3 i0 (.int .i64 0) 1 8 Try.underlying23 hi0 hz0 hz1 hz2 rfl (by decide) _ _ _ _ _ _ (by rfl) op _ _ _ _ _ (by rfl) (oq.sees) (one_int _) (by omega) (by omega) (by omega) ?_
                  intro As cs w16 os f16
                  have s16 := f16.size
                  rw [HAP.out] at os
                  replace ot := ot.fr f16 (by omega)
                  replace ox := ox.fr f16 (by omega)
                  replace oz := oz.fr f16 (by omega)
                  replace ol := ol.fr f16 (by omega)
                  replace om := om.fr f16 (by omega)
                  replace oq := oq.fr f16 (by omega)
                  replace rt := rowFr rt f16 (by omega)
                  clear mt0 mt1 mt2
                  obtain ⟨mt0, mt1, mt2⟩ := cells3 rt
                  replace rx := rowFr rx f16 (by omega)
                  clear mx0 mx1 mx2
                  obtain ⟨mx0, mx1, mx2⟩ := cells3 rx
                  replace rz := rowFr rz f16 (by omega)
                  clear mz0 mz1 mz2
                  obtain ⟨mz0, mz1, mz2⟩ := cells3 rz
                  replace hB := f16.below hB (by omega) (Nat.le_refl _)
                  clear f16 op
                  refine hK.out _ _ ⟨mz0, mz1, mz2⟩ (fun hHeld => ?_)
                  clear hK K
                  try simp only [Act.put, List.getElem_toArray, List.getElem_cons_zero, List.getElem_cons_succ, List.setIfInBounds_toArray, List.set_cons_zero, List.set_cons_succ]
                  refine wpAnyH_ready (rs := [16]) (by kernel_rfl) (by simp) ?_
                  refine AllReadyH.cons rfl (fun K hK => ?_) ?_
                  · go_simp
                    refine (sameInts_t _ _ _ _ _ _ _ _ L2 _ om.sees os.sees).mono ?_
                    rintro e w17 ⟨rfl, b17⟩
                    have s17 := b17.size
                    replace ot := ot.below b17
                    replace ox := ox.below b17
                    replace oz := oz.below b17
                    replace ol := ol.below b17
                    replace om := om.below b17
                    replace oq := oq.below b17
                    replace os := os.below b17
                    replace rt := rowKeep rt b17
                    clear mt0 mt1 mt2
                    obtain ⟨mt0, mt1, mt2⟩ := cells3 rt
                    replace rx := rowKeep rx b17
                    clear mx0 mx1 mx2
                    obtain ⟨mx0, mx1, mx2⟩ := cells3 rx
                    replace rz := rowKeep rz b17
                    clear mz0 mz1 mz2
                    obtain ⟨mz0, mz1, mz2⟩ := cells3 rz
                    replace hB := below_later hB b17 (Nat.le_refl _)
                    clear b17
                    refine hK.out _ _ ⟨mz0, mz1, mz2⟩ (fun hHeld => ?_)
                    clear hK K
                    try simp only [Act.put, List.getElem_toArray, List.getElem_cons_zero, List.getElem_cons_succ, List.setIfInBounds_toArray, List.set_cons_zero, List.set_cons_succ]
                    refine wpAnyH_take (i := 17) (v := ?_) rfl (by kernel_rfl) (by kernel_rfl) (by kernel_rfl) (fun _ _ _ h => h) (Or.inl ⟨by rfl, ?_⟩) (by assumption) ?_
                    rotate_left
                    · (intro wz hSw; (try dsimp only at hSw); go_simp; try with_reducible rfl)
                    simp only [Act.put, List.getElem_toArray, List.getElem_cons_zero, List.getElem_cons_succ, List.setIfInBounds_toArray, List.set_cons_zero, List.set_cons_succ]
                    refine wpAnyH_take (i := 18) (v := ?_) rfl (by kernel_rfl) (by kernel_rfl) (by kernel_rfl) (fun _ _ _ h => h) (Or.inl ⟨by rfl, ?_⟩) (by assumption) ?_
                    rotate_left
                    · (intro wz hSw; (try dsimp only at hSw); go_simp; try with_reducible rfl)
                    simp only [Act.put, List.getElem_toArray, List.getElem_cons_zero, List.getElem_cons_succ, List.setIfInBounds_toArray, List.set_cons_zero, List.set_cons_succ]
                    refine wpAnyH_done (by kernel_rfl) ?_ _
                    refine NoPanic.normal ?_
                    go_wp2_with fail
                    go_ret
                    exact ⟨rfl, hB⟩
                  exact AllReadyH.nil
                exact AllReadyH.nil
              exact AllReadyH.nil
            refine AllReadyH.cons rfl (fun K hK => ?_) ?_
            · go_simp
              have hn14 := below_new w13 (.cells #[.int .i64 top] 3)
              have oq := newOne w13 3 (.int .i64 top)
              replace ot := ot.below hn14
              replace ox := ox.below hn14
              replace oz := oz.below hn14
              replace ol := ol.below hn14
              replace oe := oe.below hn14
              replace om := om.below hn14
              replace rt := rowKeep rt hn14
              clear mt0 mt1 mt2
              obtain ⟨mt0, mt1, mt2⟩ := cells3 rt
              replace rx := rowKeep rx hn14
              clear mx0 mx1 mx2
              obtain ⟨mx0, mx1, mx2⟩ := cells3 rx
              replace rz := rowKeep rz hn14
              clear mz0 mz1 mz2
              obtain ⟨mz0, mz1, mz2⟩ := cells3 rz
              replace hB := below_later hB hn14 (Nat.le_refl _)
              clear hn14
              have s14 : w13.heap.size + 1 ≤ (w13.alloc (.cells #[.int .i64 top] 3)).heap.size := by rw [World.size_alloc]; exact Nat.le_refl _
              generalize (w13.alloc (.cells #[.int .i64 top] 3)) = u14 at *
              refine hK.out _ _ ⟨mz0, mz1, mz2⟩ (fun hHeld => ?_)
              clear hK K
              try simp only [Act.put, List.getElem_toArray, List.getElem_cons_zero, List.getElem_cons_succ, List.setIfInBounds_toArray, List.set_cons_zero, List.set_cons_succ]
              refine wpAnyH_ready (rs := [12]) (by kernel_rfl) (by simp) ?_
              refine AllReadyH.cons rfl (fun K hK => ?_) ?_
              · rw [if_pos (by rfl)]
                refine wp_app2 _ (.tmp 59) (.tmp 61) _ (by rfl) 3 i0 (.int .i64 0) 1 8 Try.underlying23 hi0 hz0 hz1 hz2 rfl (by decide) _ _ _ _ _ _ (by rfl) oe _ _ _ _ _ (by rfl) (ol.sees.tail 1 (by omega) _ (fun _ => rfl)) (ints_one _) (by omega) (by omega) (by omega) ?_
                intro Ap cp w15 l15 h15 op d15 f15
                have s15 := f15.size
                rw [HD.out] at op
                replace ot := ot.fr f15 (by omega)
                replace ox := ox.fr f15 (by omega)
                replace oz := oz.fr f15 (by omega)
                replace ol := ol.fr f15 (by omega)
                replace om := om.fr f15 (by omega)
                replace oq := oq.fr f15 (by omega)
                replace rt := rowFr rt f15 (by omega)
                clear mt0 mt1 mt2
                obtain ⟨mt0, mt1, mt2⟩ := cells3 rt
                replace rx := rowFr rx f15 (by omega)
                clear mx0 mx1 mx2
                obtain ⟨mx0, mx1, mx2⟩ := cells3 rx
                replace rz := rowFr rz f15 (by omega)
                clear mz0 mz1 mz2
                obtain ⟨mz0, mz1, mz2⟩ := cells3 rz
                replace hB := f15.below hB (by omega) (Nat.le_refl _)
                clear f15 oe
                generalize hnp : 0 + (L0.length - 1) = np at *
                have hnq : np ≤ 17 := by omega
                clear hnp
                refine hK.out _ _ ⟨mz0, mz1, mz2⟩ (fun hHeld => ?_)
                clear hK K
                try simp only [Act.put, List.getElem_toArray, List.getElem_cons_zero, List.getElem_cons_succ, List.setIfInBounds_toArray, List.set_cons_zero, List.set_cons_succ]
                refine wpAnyH_ready (rs := [15]) (by kernel_rfl) (by simp) ?_
                refine AllReadyH.cons rfl (fun K hK => ?_) ?_
                · rw [if_pos (by rfl)]
                  refine wp_app _ (.tmp 62) (.tmp 64) _ (by rfl) 3 i0 (.int .i64 0) 1 8 Try.underlying23 hi0 hz0 hz1 hz2 rfl (by decide) _ _ _ _ _ _ (by rfl) op _ _ _ _ _ (by rfl) (oq.sees) (one_int _) (by omega) (by omega) (by omega) ?_
                  intro As cs w16 os f16
                  have s16 := f16.size
                  rw [HAP.out] at os
                  replace ot := ot.fr f16 (by omega)
                  replace ox := ox.fr f16 (by omega)
                  replace oz := oz.fr f16 (by omega)
                  replace ol := ol.fr f16 (by omega)
                  replace om := om.fr f16 (by omega)
                  replace oq := oq.fr f16 (by omega)
                  replace rt := rowFr rt f16 (by omega)
                  clear mt0 mt1 mt2
                  obtain ⟨mt0, mt1, mt2⟩ := cells3 rt
                  replace rx := rowFr rx f16 (by omega)
                  clear mx0 mx1 mx2
                  obtain ⟨mx0, mx1, mx2⟩ := cells3 rx
                  replace rz := rowFr rz f16 (by omega)
                  clear mz0 mz1 mz2
                  obtain ⟨mz0, mz1, mz2⟩ := cells3 rz
                  replace hB := f16.below hB (by omega) (Nat.le_refl _)
                  clear f16 op
                  refine hK.out _ _ ⟨mz0, mz1, mz2⟩ (fun hHeld => ?_)
                  clear hK K
                  try simp only [Act.put, List.getElem_toArray, List.getElem_cons_zero, List.getElem_cons_succ, List.setIfInBounds_toArray, List.set_cons_zero, List.set_cons_succ]
                  refine wpAnyH_ready (rs := [16]) (by kernel_rfl) (by simp) ?_
                  refine AllReadyH.cons rfl (fun K hK => ?_) ?_
                  · go_simp
                    refine (sameInts_t _ _ _ _ _ _ _ _ L2 _ om.sees os.sees).mono ?_
                    rintro e w17 ⟨rfl, b17⟩
                    have s17 := b17.size
                    replace ot := ot.below b17
                    replace ox := ox.below b17
                    replace oz := oz.below b17
                    replace ol := ol.below b17
                    replace om := om.below b17
                    replace oq := oq.below b17
                    replace os := os.below b17
                    replace rt := rowKeep rt b17
                    clear mt0 mt1 mt2
                    obtain ⟨mt0, mt1, mt2⟩ := cells3 rt
                    replace rx := rowKeep rx b17
                    clear mx0 mx1 mx2
                    obtain ⟨mx0, mx1, mx2⟩ := cells3 rx
                    replace rz := rowKeep rz b17
                    clear mz0 mz1 mz2
                    obtain ⟨mz0, mz1, mz2⟩ := cells3 rz
                    replace hB := below_later hB b17 (Nat.le_refl _)
                    clear b17
                    refine hK.out _ _ ⟨mz0, mz1, mz2⟩ (fun hHeld => ?_)
                    clear hK K
                    try simp only [Act.put, List.getElem_toArray, List.getElem_cons_zero, List.getElem_cons_succ, List.setIfInBounds_toArray, List.set_cons_zero, List.set_cons_succ]
                    refine wpAnyH_take (i := 17) (v := ?_) rfl (by kernel_rfl) (by kernel_rfl) (by kernel_rfl) (fun _ _ _ h => h) (Or.inl ⟨by rfl, ?_⟩) (by assumption) ?_
                    rotate_left
                    · (intro wz hSw; (try dsimp only at hSw); go_simp; try with_reducible rfl)
                    simp only [Act.put, List.getElem_toArray, List.getElem_cons_zero, List.getElem_cons_succ, List.setIfInBounds_toArray, List.set_cons_zero, List.set_cons_succ]
                    refine wpAnyH_take (i := 18) (v := ?_) rfl (by kernel_rfl) (by kernel_rfl) (by kernel_rfl) (fun _ _ _ h => h) (Or.inl ⟨by rfl, ?_⟩) (by assumption) ?_
                    rotate_left
                    · (intro wz hSw; (try dsimp only at hSw); go_simp; try with_reducible rfl)
                    simp only [Act.put, List.getElem_toArray, List.getElem_cons_zero, List.getElem_cons_succ, List.setIfInBounds_toArray, List.set_cons_zero, List.set_cons_succ]
                    refine wpAnyH_done (by kernel_rfl) ?_ _
                    refine NoPanic.normal ?_
                    go_wp2_with fail
                    go_ret
                    exact ⟨rfl, hB⟩
                  exact AllReadyH.nil
                exact AllReadyH.nil
              exact AllReadyH.nil
            exact AllReadyH.nil
          refine AllReadyH.cons rfl (fun K hK => ?_) ?_
          · go_simp
            have hn13 := below_new u12 (.cells #[.int .i64 top] 3)
            have oq := newOne u12 3 (.int .i64 top)
            replace ot := ot.below hn13
            replace ox := ox.below hn13
            replace oz := oz.below hn13
            replace ol := ol.below hn13
            replace oe := oe.below hn13
            replace rt := rowKeep rt hn13
            clear mt0 mt1 mt2
            obtain ⟨mt0, mt1, mt2⟩ := cells3 rt
            replace rx := rowKeep rx hn13
            clear mx0 mx1 mx2
            obtain ⟨mx0, mx1, mx2⟩ := cells3 rx
            replace rz := rowKeep rz hn13
            clear mz0 mz1 mz2
            obtain ⟨mz0, mz1, mz2⟩ := cells3 rz
            replace hB := below_later hB hn13 (Nat.le_refl _)
            clear hn13
            have s13 : u12.heap.size + 1 ≤ (u12.alloc (.cells #[.int .i64 top] 3)).heap.size := by rw [World.size_alloc]; exact Nat.le_refl _
            generalize (u12.alloc (.cells #[.int .i64 top] 3)) = u13 at *
            refine hK.out _ _ ⟨mz0, mz1, mz2⟩ (fun hHeld => ?_)
            clear hK K
            try simp only [Act.put, List.getElem_toArray, List.getElem_cons_zero, List.getElem_cons_succ, List.setIfInBounds_toArray, List.set_cons_zero, List.set_cons_succ]
            refine wpAnyH_ready (rs := [8]) (by kernel_rfl) (by simp) ?_
            refine AllReadyH.cons rfl (fun K hK => ?_) ?_
            · go_simp
              have q := implRingList_any Az zd.length cz _ zd zh zt _ oz.sees (by omega)
              rw [HZL.out] at q
              refine q.mono ?_
              clear q
              rintro e w14 ⟨Am, cm, rfl, om, b14⟩
              have s14 := b14.size
              replace ot := ot.below b14
              replace ox := ox.below b14
              replace oz := oz.below b14
              replace ol := ol.below b14
              replace oe := oe.below b14
              replace oq := oq.below b14
              replace rt := rowKeep rt b14
              clear mt0 mt1 mt2
              obtain ⟨mt0, mt1, mt2⟩ := cells3 rt
              replace rx := rowKeep rx b14
              clear mx0 mx1 mx2
              obtain ⟨mx0, mx1, mx2⟩ := cells3 rx
              replace rz := rowKeep rz b14
              clear mz0 mz1 mz2
              obtain ⟨mz0, mz1, mz2⟩ := cells3 rz
              replace hB := below_later hB b14 (Nat.le_refl _)
              clear b14
              refine hK.out _ _ ⟨mz0, mz1, mz2⟩ (fun hHeld => ?_)
              clear hK K
              try simp only [Act.put, List.getElem_toArray, List.getElem_cons_zero, List.getElem_cons_succ, List.setIfInBounds_toArray, List.set_cons_zero, List.set_cons_succ]
              refine wpAnyH_ready (rs := [12]) (by kernel_rfl) (by simp) ?_
              refine AllReadyH.cons rfl (fun K hK => ?_) ?_
              · rw [if_pos (by rfl)]
                refine wp_app2 _ (.tmp 59) (.tmp 61) _ (by rfl) 3 i0 (.int .i64 0) 1 8 Try.underlying23 hi0 hz0 hz1 hz2 rfl (by decide) _ _ _ _ _ _ (by rfl) oe _ _ _ _ _ (by rfl) (ol.sees.tail 1 (by omega) _ (fun _ => rfl)) (ints_one _) (by omega) (by omega) (by omega) ?_
                intro Ap cp w15 l15 h15 op d15 f15
                have s15 := f15.size
                rw [HD.out] at op
                replace ot := ot.fr f15 (by omega)
                replace ox := ox.fr f15 (by omega)
                replace oz := oz.fr f15 (by omega)
                replace ol := ol.fr f15 (by omega)
                replace oq := oq.fr f15 (by omega)
                replace om := om.fr f15 (by omega)
                replace rt := rowFr rt f15 (by omega)
                clear mt0 mt1 mt2
                obtain ⟨mt0, mt1, mt2⟩ := cells3 rt
                replace rx := rowFr rx f15 (by omega)
                clear mx0 mx1 mx2
                obtain ⟨mx0, mx1, mx2⟩ := cells3 rx
                replace rz := rowFr rz f15 (by omega)
                clear mz0 mz1 mz2
                obtain ⟨mz0, mz1, mz2⟩ := cells3 rz
                replace hB := f15.below hB (by omega) (Nat.le_refl _)
                clear f15 oe
                generalize hnp : 0 + (L0.length - 1) = np at *
                have hnq : np ≤ 17 := by omega
                clear hnp
                refine hK.out _ _ ⟨mz0, mz1, mz2⟩ (fun hHeld => ?_)
                clear hK K
                try simp only [Act.put, List.getElem_toArray, List.getElem_cons_zero, List.getElem_cons_succ, List.setIfInBounds_toArray, List.set_cons_zero, List.set_cons_succ]
                refine wpAnyH_ready (rs := [15]) (by kernel_rfl) (by simp) ?_
                refine AllReadyH.cons rfl (fun K hK => ?_) ?_
                · rw [if_pos (by rfl)]
                  refine wp_app _ (.tmp 62) (.tmp 64) _ (by rfl) 3 i0 (.int .i64 0) 1 8 Try.underlying23 hi0 hz0 hz1 hz2 rfl (by decide) _ _ _ _ _ _ (by rfl) op _ _ _ _ _ (by rfl) (oq.sees) (one_int _) (by omega) (by omega) (by omega) ?_
                  intro As cs w16 os f16
                  have s16 := f16.size
                  rw [HAP.out] at os
                  replace ot := ot.fr f16 (by omega)
                  replace ox := ox.fr f16 (by omega)
                  replace oz := oz.fr f16 (by omega)
                  replace ol := ol.fr f16 (by omega)
                  replace oq := oq.fr f16 (by omega)
                  replace om := om.fr f16 (by omega)
                  replace rt := rowFr rt f16 (by omega)
                  clear mt0 mt1 mt2
                  obtain ⟨mt0, mt1, mt2⟩ := cells3 rt
                  replace rx := rowFr rx f16 (by omega)
                  clear mx0 mx1 mx2
                  obtain ⟨mx0, mx1, mx2⟩ := cells3 rx
                  replace rz := rowFr rz f16 (by omega)
                  clear mz0 mz1 mz2
                  obtain ⟨mz0, mz1, mz2⟩ := cells3 rz
                  replace hB := f16.below hB (by omega) (Nat.le_refl _)
                  clear f16 op
                  refine hK.out _ _ ⟨mz0, mz1, mz2⟩ (fun hHeld => ?_)
                  clear hK K
                  try simp only [Act.put, List.getElem_toArray, List.getElem_cons_zero, List.getElem_cons_succ, List.setIfInBounds_toArray, List.set_cons_zero, List.set_cons_succ]
                  refine wpAnyH_ready (rs := [16]) (by kernel_rfl) (by simp) ?_
                  refine AllReadyH.cons rfl (fun K hK => ?_) ?_
                  · go_simp
                    refine (sameInts_t _ _ _ _ _ _ _ _ L2 _ om.sees os.sees).mono ?_
                    rintro e w17 ⟨rfl, b17⟩
                    have s17 := b17.size
                    replace ot := ot.below b17
                    replace ox := ox.below b17
                    replace oz := oz.below b17
                    replace ol := ol.below b17
                    replace oq := oq.below b17
                    replace om := om.below b17
                    replace os := os.below b17
                    replace rt := rowKeep rt b17
                    clear mt0 mt1 mt2
                    obtain ⟨mt0, mt1, mt2⟩ := cells3 rt
                    replace rx := rowKeep rx b17
                    clear mx0 mx1 mx2
                    obtain ⟨mx0, mx1, mx2⟩ := cells3 rx
                    replace rz := rowKeep rz b17
                    clear mz0 mz1 mz2
                    obtain ⟨mz0, mz1, mz2⟩ := cells3 rz
                    replace hB := below_later hB b17 (Nat.le_refl _)
                    clear b17
                    refine hK.out _ _ ⟨mz0, mz1, mz2⟩ (fun hHeld => ?_)
                    clear hK K
                    try simp only [Act.put, List.getElem_toArray, List.getElem_cons_zero, List.getElem_cons_succ, List.setIfInBounds_toArray, List.set_cons_zero, List.set_cons_succ]
                    refine wpAnyH_take (i := 17) (v := ?_) rfl (by kernel_rfl) (by kernel_rfl) (by kernel_rfl) (fun _ _ _ h => h) (Or.inl ⟨by rfl, ?_⟩) (by assumption) ?_
                    rotate_left
                    · (intro wz hSw; (try dsimp only at hSw); go_simp; try with_reducible rfl)
                    simp only [Act.put, List.getElem_toArray, List.getElem_cons_zero, List.getElem_cons_succ, List.setIfInBounds_toArray, List.set_cons_zero, List.set_cons_succ]
                    refine wpAnyH_take (i := 18) (v := ?_) rfl (by kernel_rfl) (by kernel_rfl) (by kernel_rfl) (fun _ _ _ h => h) (Or.inl ⟨by rfl, ?_⟩) (by assumption) ?_
                    rotate_left
                    · (intro wz hSw; (try dsimp only at hSw); go_simp; try with_reducible rfl)
                    simp only [Act.put, List.getElem_toArray, List.getElem_cons_zero, List.getElem_cons_succ, List.setIfInBounds_toArray, List.set_cons_zero, List.set_cons_succ]
                    refine wpAnyH_done (by kernel_rfl) ?_ _
                    refine NoPanic.normal ?_
                    go_wp2_with fail
                    go_ret
                    exact ⟨rfl, hB⟩
                  exact AllReadyH.nil
                exact AllReadyH.nil
              exact AllReadyH.nil
            exact AllReadyH.nil
          exact AllReadyH.nil
        refine AllReadyH.cons rfl (fun K hK => ?_) ?_
        · go_simp
          have hn12 := below_new u11 (.cells #[.int .i64 top] 3)
          have oq := newOne u11 3 (.int .i64 top)
          replace ot := ot.below hn12
          replace ox := ox.below hn12
          replace oz := oz.below hn12
          replace ol := ol.below hn12
          replace rt := rowKeep rt hn12
          clear mt0 mt1 mt2
          obtain ⟨mt0, mt1, mt2⟩ := cells3 rt
          replace rx := rowKeep rx hn12
          clear mx0 mx1 mx2
          obtain ⟨mx0, mx1, mx2⟩ := cells3 rx
          replace rz := rowKeep rz hn12
          clear mz0 mz1 mz2
          obtain ⟨mz0, mz1, mz2⟩ := cells3 rz
          replace hB := below_later hB hn12 (Nat.le_refl _)
          clear hn12
          have s12 : u11.heap.size + 1 ≤ (u11.alloc (.cells #[.int .i64 top] 3)).heap.size := by rw [World.size_alloc]; exact Nat.le_refl _
          generalize (u11.alloc (.cells #[.int .i64 top] 3)) = u12 at *
          refine hK.out _ _ ⟨mz0, mz1, mz2⟩ (fun hHeld => ?_)
          clear hK K
          try simp only [Act.put, List.getElem_toArray, List.getElem_cons_zero, List.getElem_cons_succ, List.setIfInBounds_toArray, List.set_cons_zero, List.set_cons_succ]
          refine wpAnyH_ready (rs := [8, 9]) (by kernel_rfl) (by simp) ?_
          refine AllReadyH.cons rfl (fun K hK => ?_) ?_
          · go_simp
            have q := implRingList_any Az zd.length cz _ zd zh zt _ oz.sees (by omega)
            rw [HZL.out] at q
            refine q.mono ?_
            clear q
            rintro e w13 ⟨Am, cm, rfl, om, b13⟩
            have s13 := b13.size
            replace ot := ot.below b13
            replace ox := ox.below b13
            replace oz := oz.below b13
            replace ol := ol.below b13
            replace oq := oq.below b13
            replace rt := rowKeep rt b13
            clear mt0 mt1 mt2
            obtain ⟨mt0, mt1, mt2⟩ := cells3 rt
            replace rx := rowKeep rx b13
            clear mx0 mx1 mx2
            obtain ⟨mx0, mx1, mx2⟩ := cells3 rx
            replace rz := rowKeep rz b13
            clear mz0 mz1 mz2
            obtain ⟨mz0, mz1, mz2⟩ := cells3 rz
            replace hB := below_later hB b13 (Nat.le_refl _)
            clear b13
            refine hK.out _ _ ⟨mz0, mz1, mz2⟩ (fun hHeld => ?_)
            clear hK K
            try simp only [Act.put, List.getElem_toArray, List.getElem_cons_zero, List.getElem_cons_succ, List.setIfInBounds_toArray, List.set_cons_zero, List.set_cons_succ]
            refine wpAnyH_ready (rs := [9]) (by kernel_rfl) (by simp) ?_
            refine AllReadyH.cons rfl (fun K hK => ?_) ?_
            · go_simp
              have hn14 := below_new w13 (.cells #[] 3)
              have oe := newEmpty w13 3 1
              replace ot := ot.below hn14
              replace ox := ox.below hn14
              replace oz := oz.below hn14
              replace ol := ol.below hn14
              replace oq := oq.below hn14
              replace om := om.below hn14
              replace rt := rowKeep rt hn14
              clear mt0 mt1 mt2
              obtain ⟨mt0, mt1, mt2⟩ := cells3 rt
              replace rx := rowKeep rx hn14
              clear mx0 mx1 mx2
              obtain ⟨mx0, mx1, mx2⟩ := cells3 rx
              replace rz := rowKeep rz hn14
              clear mz0 mz1 mz2
              obtain ⟨mz0, mz1, mz2⟩ := cells3 rz
              replace hB := below_later hB hn14 (Nat.le_refl _)
              clear hn14
              have s14 : w13.heap.size + 1 ≤ (w13.alloc (.cells #[] 3)).heap.size := by rw [World.size_alloc]; exact Nat.le_refl _
              generalize (w13.alloc (.cells #[] 3)) = u14 at *
              refine hK.out _ _ ⟨mz0, mz1, mz2⟩ (fun hHeld => ?_)
              clear hK K
              try simp only [Act.put, List.getElem_toArray, List.getElem_cons_zero, List.getElem_cons_succ, List.setIfInBounds_toArray, List.set_cons_zero, List.set_cons_succ]
              refine wpAnyH_ready (rs := [12]) (by kernel_rfl) (by simp) ?_
              refine AllReadyH.cons rfl (fun K hK => ?_) ?_
              · rw [if_pos (by rfl)]
                refine wp_app2 _ (.tmp 59) (.tmp 61) _ (by rfl) 3 i0 (.int .i64 0) 1 8 Try.underlying23 hi0 hz0 hz1 hz2 rfl (by decide) _ _ _ _ _ _ (by rfl) oe _ _ _ _ _ (by rfl) (ol.sees.tail 1 (by omega) _ (fun _ => rfl)) (ints_one _) (by omega) (by omega) (by omega) ?_
                intro Ap cp w15 l15 h15 op d15 f15
                have s15 := f15.size
                rw [HD.out] at op
                replace ot := ot.fr f15 (by omega)
                replace ox := ox.fr f15 (by omega)
                replace oz := oz.fr f15 (by omega)
                replace ol := ol.fr f15 (by omega)
                replace oq := oq.fr f15 (by omega)
                replace om := om.fr f15 (by omega)
                replace rt := rowFr rt f15 (by omega)
                clear mt0 mt1 mt2
                obtain ⟨mt0, mt1, mt2⟩ := cells3 rt
                replace rx := rowFr rx f15 (by omega)
                clear mx0 mx1 mx2
                obtain ⟨mx0, mx1, mx2⟩ := cells3 rx
                replace rz := rowFr rz f15 (by omega)
                clear mz0 mz1 mz2
                obtain ⟨mz0, mz1, mz2⟩ := cells3 rz
                replace hB := f15.below hB (by omega) (Nat.le_refl _)
                clear f15 oe
                generalize hnp : 0 + (L0.length - 1) = np at *
                have hnq : np ≤ 17 := by omega
                clear hnp
                refine hK.out _ _ ⟨mz0, mz1, mz2⟩ (fun hHeld => ?_)
                clear hK K
                try simp only [Act.put, List.getElem_toArray, List.getElem_cons_zero, List.getElem_cons_succ, List.setIfInBounds_toArray, List.set_cons_zero, List.set_cons_succ]
                refine wpAnyH_ready (rs := [15]) (by kernel_rfl) (by simp) ?_
                refine AllReadyH.cons rfl (fun K hK => ?_) ?_
                · rw [if_pos (by rfl)]
                  refine wp_app _ (.tmp 62) (.tmp 64) _ (by rfl) 3 i0 (.int .i64 0) 1 8 Try.underlying23 hi0 hz0 hz1 hz2 rfl (by decide) _ _ _ _ _ _ (by rfl) op _ _ _ _ _ (by rfl) (oq.sees) (one_int _) (by omega) (by omega) (by omega) ?_
                  intro As cs w16 os f16
                  have s16 := f16.size
                  rw [HAP.out] at os
                  replace ot := ot.fr f16 (by omega)
                  replace ox := ox.fr f16 (by omega)
                  replace oz := oz.fr f16 (by omega)
                  replace ol := ol.fr f16 (by omega)
                  replace oq := oq.fr f16 (by omega)
                  replace om := om.fr f16 (by omega)
                  replace rt := rowFr rt f16 (by omega)
                  clear mt0 mt1 mt2
                  obtain ⟨mt0, mt1, mt2⟩ := cells3 rt
                  replace rx := rowFr rx f16 (by omega)
                  clear mx0 mx1 mx2
                  obtain ⟨mx0, mx1, mx2⟩ := cells3 rx
                  replace rz := rowFr rz f16 (by omega)
                  clear mz0 mz1 mz2
                  obtain ⟨mz0, mz1, mz2⟩ := cells3 rz
                  replace hB := f16.below hB (by omega) (Nat.le_refl _)
                  clear f16 op
                  refine hK.out _ _ ⟨mz0, mz1, mz2⟩ (fun hHeld => ?_)
                  clear hK K
                  try simp only [Act.put, List.getElem_toArray, List.getElem_cons_zero, List.getElem_cons_succ, List.setIfInBounds_toArray, List.set_cons_zero, List.set_cons_succ]
                  refine wpAnyH_ready (rs := [16]) (by kernel_rfl) (by simp) ?_
                  refine AllReadyH.cons rfl (fun K hK => ?_) ?_
                  · go_simp
                    refine (sameInts_t _ _ _ _ _ _ _ _ L2 _ om.sees os.sees).mono ?_
                    rintro e w17 ⟨rfl, b17⟩
                    have s17 := b17.size
                    replace ot := ot.below b17
                    replace ox := ox.below b17
                    replace oz := oz.below b17
                    replace ol := ol.below b17
                    replace oq := oq.below b17
                    replace om := om.below b17
                    replace os := os.below b17
                    replace rt := rowKeep rt b17
                    clear mt0 mt1 mt2
                    obtain ⟨mt0, mt1, mt2⟩ := cells3 rt
                    replace rx := rowKeep rx b17
                    clear mx0 mx1 mx2
                    obtain ⟨mx0, mx1, mx2⟩ := cells3 rx
                    replace rz := rowKeep rz b17
                    clear mz0 mz1 mz2
                    obtain ⟨mz0, mz1, mz2⟩ := cells3 rz
                    replace hB := below_later hB b17 (Nat.le_refl _)
                    clear b17
                    refine hK.out _ _ ⟨mz0, mz1, mz2⟩ (fun hHeld => ?_)
                    clear hK K
                    try simp only [Act.put, List.getElem_toArray, List.getElem_cons_zero, List.getElem_cons_succ, List.setIfInBounds_toArray, List.set_cons_zero, List.set_cons_succ]
                    refine wpAnyH_take (i := 17) (v := ?_) rfl (by kernel_rfl) (by kernel_rfl) (by kernel_rfl) (fun _ _ _ h => h) (Or.inl ⟨by rfl, ?_⟩) (by assumption) ?_
                    rotate_left
                    · (intro wz hSw; (try dsimp only at hSw); go_simp; try with_reducible rfl)
                    simp only [Act.put, List.getElem_toArray, List.getElem_cons_zero, List.getElem_cons_succ, List.setIfInBounds_toArray, List.set_cons_zero, List.set_cons_succ]
                    refine wpAnyH_take (i := 18) (v := ?_) rfl (by kernel_rfl) (by kernel_rfl) (by kernel_rfl) (fun _ _ _ h => h) (Or.inl ⟨by rfl, ?_⟩) (by assumption) ?_
                    rotate_left
                    · (intro wz hSw; (try dsimp only at hSw); go_simp; try with_reducible rfl)
                    simp only [Act.put, List.getElem_toArray, List.getElem_cons_zero, List.getElem_cons_succ, List.setIfInBounds_toArray, List.set_cons_zero, List.set_cons_succ]
                    refine wpAnyH_done (by kernel_rfl) ?_ _
                    refine NoPanic.normal ?_
                    go_wp2_with fail
                    go_ret
                    exact ⟨rfl, hB⟩
                  exact AllReadyH.nil
                exact AllReadyH.nil
              exact AllReadyH.nil
            exact AllReadyH.nil
          refine AllReadyH.cons rfl (fun K hK => ?_) ?_
          · go_simp
            have hn13 := below_new u12 (.cells #[] 3)
            have oe := newEmpty u12 3 1
            replace ot := ot.below hn13
            replace ox := ox.below hn13
            replace oz := oz.below hn13
            replace ol := ol.below hn13
            replace oq := oq.below hn13
            replace rt := rowKeep rt hn13
            clear mt0 mt1 mt2
            obtain ⟨mt0, mt1, mt2⟩ := cells3 rt
            replace rx := rowKeep rx hn13
            clear mx0 mx1 mx2
            obtain ⟨mx0, mx1, mx2⟩ := cells3 rx
            replace rz := rowKeep rz hn13
            clear mz0 mz1 mz2
            obtain ⟨mz0, mz1, mz2⟩ := cells3 rz
            replace hB := below_later hB hn13 (Nat.le_refl _)
            clear hn13
            have s13 : u12.heap.size + 1 ≤ (u12.alloc (.cells #[] 3)).heap.size := by rw [World.size_alloc]; exact Nat.le_refl _
            generalize (u12.alloc (.cells #[] 3)) = u13 at *
            refine hK.out _ _ ⟨mz0, mz1, mz2⟩ (fun hHeld => ?_)
            clear hK K
            try simp only [Act.put, List.getElem_toArray, List.getElem_cons_zero, List.getElem_cons_succ, List.setIfInBounds_toArray, List.set_cons_zero, List.set_cons_succ]
            refine wpAnyH_ready (rs := [8]) (by kernel_rfl) (by simp) ?_
            refine AllReadyH.cons rfl (fun K hK => ?_) ?_
            · go_simp
              have q := implRingList_any Az zd.length cz _ zd zh zt _ oz.sees (by omega)
              rw [HZL.out] at q
              refine q.mono ?_
              clear q
              rintro e w14 ⟨Am, cm, rfl, om, b14⟩
              have s14 := b14.size
              replace ot := ot.below b14
              replace ox := ox.below b14
              replace oz := oz.below b14
              replace ol := ol.below b14
              replace oq := oq.below b14
              replace oe := oe.below b14
              replace rt := rowKeep rt b14
              clear mt0 mt1 mt2
              obtain ⟨mt0, mt1, mt2⟩ := cells3 rt
              replace rx := rowKeep rx b14
              clear mx0 mx1 mx2
              obtain ⟨mx0, mx1, mx2⟩ := cells3 rx
              replace rz := rowKeep rz b14
              clear mz0 mz1 mz2
              obtain ⟨mz0, mz1, mz2⟩ := cells3 rz
              replace hB := below_later hB b14 (Nat.le_refl _)
              clear b14
              refine hK.out _ _ ⟨mz0, mz1, mz2⟩ (fun hHeld => ?_)
              clear hK K
              try simp only [Act.put, List.getElem_toArray, List.getElem_cons_zero, List.getElem_cons_succ, List.setIfInBounds_toArray, List.set_cons_zero, List.set_cons_succ]
              refine wpAnyH_ready (rs := [12]) (by kernel_rfl) (by simp) ?_
              refine AllReadyH.cons rfl (fun K hK => ?_) ?_
              · rw [if_pos (by rfl)]
                refine wp_app2 _ (.tmp 59) (.tmp 61) _ (by rfl) 3 i0 (.int .i64 0) 1 8 Try.underlying23 hi0 hz0 hz1 hz2 rfl (by decide) _ _ _ _ _ _ (by rfl) oe _ _ _ _ _ (by rfl) (ol.sees.tail 1 (by omega) _ (fun _ => rfl)) (ints_one _) (by omega) (by omega) (by omega) ?_
                intro Ap cp w15 l15 h15 op d15 f15
                have s15 := f15.size
                rw [HD.out] at op
                replace ot := ot.fr f15 (by omega)
                replace ox := ox.fr f15 (by omega)
                replace oz := oz.fr f15 (by omega)
                replace ol := ol.fr f15 (by omega)
                replace oq := oq.fr f15 (by omega)
                replace om := om.fr f15 (by omega)
                replace rt := rowFr rt f15 (by omega)
                clear mt0 mt1 mt2
                obtain ⟨mt0, mt1, mt2⟩ := cells3 rt
                replace rx := rowFr rx f15 (by omega)
                clear mx0 mx1 mx2
                obtain ⟨mx0, mx1, mx2⟩ := cells3 rx
                replace rz := rowFr rz f15 (by omega)
                clear mz0 mz1 mz2
                obtain ⟨mz0, mz1, mz2⟩ := cells3 rz
                replace hB := f15.below hB (by omega) (Nat.le_refl _)
                clear f15 oe
                generalize hnp : 0 + (L0.length - 1) = np at *
                have hnq : np ≤ 17 := by omega
                clear hnp
                refine hK.out _ _ ⟨mz0, mz1, mz2⟩ (fun hHeld => ?_)
                clear hK K
                try simp only [Act.put, List.getElem_toArray, List.getElem_cons_zero, List.getElem_cons_succ, List.setIfInBounds_toArray, List.set_cons_zero, List.set_cons_succ]
                refine wpAnyH_ready (rs := [15]) (by kernel_rfl) (by simp) ?_
                refine AllReadyH.cons rfl (fun K hK => ?_) ?_
                · rw [if_pos (by rfl)]
                  refine wp_app _ (.tmp 62) (.tmp 64) _ (by rfl) 3 i0 (.int .i64 0) 1 8 Try.underlying23 hi0 hz0 hz1 hz2 rfl (by decide) _ _ _ _ _ _ (by rfl) op _ _ _ _ _ (by rfl) (oq.sees) (one_int _) (by omega) (by omega) (by omega) ?_
                  intro As cs w16 os f16
                  have s16 := f16.size
                  rw [HAP.out] at os
                  replace ot := ot.fr f16 (by omega)
                  replace ox := ox.fr f16 (by omega)
                  replace oz := oz.fr f16 (by omega)
                  replace ol := ol.fr f16 (by omega)
                  replace oq := oq.fr f16 (by omega)
                  replace om := om.fr f16 (by omega)
                  replace rt := rowFr rt f16 (by omega)
                  clear mt0 mt1 mt2
                  obtain ⟨mt0, mt1, mt2⟩ := cells3 rt
                  replace rx := rowFr rx f16 (by omega)
                  clear mx0 mx1 mx2
                  obtain ⟨mx0, mx1, mx2⟩ := cells3 rx
                  replace rz := rowFr rz f16 (by omega)
                  clear mz0 mz1 mz2
                  obtain ⟨mz0, mz1, mz2⟩ := cells3 rz
                  replace hB := f16.below hB (by omega) (Nat.le_refl _)
                  clear f16 op
                  refine hK.out _ _ ⟨mz0, mz1, mz2⟩ (fun hHeld => ?_)
                  clear hK K
                  try simp only [Act.put, List.getElem_toArray, List.getElem_cons_zero, List.getElem_cons_succ, List.setIfInBounds_toArray, List.set_cons_zero, List.set_cons_succ]
                  refine wpAnyH_ready (rs := [16]) (by kernel_rfl) (by simp) ?_
                  refine AllReadyH.cons rfl (fun K hK => ?_) ?_
                  · go_simp
                    refine (sameInts_t _ _ _ _ _ _ _ _ L2 _ om.sees os.sees).mono ?_
                    rintro e w17 ⟨rfl, b17⟩
                    have s17 := b17.size
                    replace ot := ot.below b17
                    replace ox := ox.below b17
                    replace oz := oz.below b17
                    replace ol := ol.below b17
                    replace oq := oq.below b17
                    replace om := om.below b17
                    replace os := os.below b17
                    replace rt := rowKeep rt b17
                    clear mt0 mt1 mt2
                    obtain ⟨mt0, mt1, mt2⟩ := cells3 rt
                    replace rx := rowKeep rx b17
                    clear mx0 mx1 mx2
                    obtain ⟨mx0, mx1, mx2⟩ := cells3 rx
                    replace rz := rowKeep rz b17
                    clear mz0 mz1 mz2
                    obtain ⟨mz0, mz1, mz2⟩ := cells3 rz
                    replace hB := below_later hB b17 (Nat.le_refl _)
                    clear b17
                    refine hK.out _ _ ⟨mz0, mz1, mz2⟩ (fun hHeld => ?_)
                    clear hK K
                    try simp only [Act.put, List.getElem_toArray, List.getElem_cons_zero, List.getElem_cons_succ, List.setIfInBounds_toArray, List.set_cons_zero, List.set_cons_succ]
                    refine wpAnyH_take (i := 17) (v := ?_) rfl (by kernel_rfl) (by kernel_rfl) (by kernel_rfl) (fun _ _ _ h => h) (Or.inl ⟨by rfl, ?_⟩) (by assumption) ?_
                    rotate_left
                    · (intro wz hSw; (try dsimp only at hSw); go_simp; try with_reducible rfl)
                    simp only [Act.put, List.getElem_toArray, List.getElem_cons_zero, List.getElem_cons_succ, List.setIfInBounds_toArray, List.set_cons_zero, List.set_cons_succ]
                    refine wpAnyH_take (i := 18) (v := ?_) rfl (by kernel_rfl) (by kernel_rfl) (by kernel_rfl) (fun _ _ _ h => h) (Or.inl ⟨by rfl, ?_⟩) (by assumption) ?_
                    rotate_left
                    · (intro wz hSw; (try dsimp only at hSw); go_simp; try with_reducible rfl)
                    simp only [Act.put, List.getElem_toArray, List.getElem_cons_zero, List.getElem_cons_succ, List.setIfInBounds_toArray, List.set_cons_zero, List.set_cons_succ]
                    refine wpAnyH_done (by kernel_rfl) ?_ _
                    refine NoPanic.normal ?_
                    go_wp2_with fail
                    go_ret
                    exact ⟨rfl, hB⟩
                  exact AllReadyH.nil
                exact AllReadyH.nil
              exact AllReadyH.nil
            exact AllReadyH.nil
          exact AllReadyH.nil
        exact AllReadyH.nil
    · have HY := Lib.hid (rpop_none _ hv hn2)
      clear hv hn2
      go_wp2_with fail
      generalize (w1.alloc (.cells #[.slice At d.length ct, .int .i64 hd, .int .i64 tl] 25)) = u2 at *
      have q := implRingPop_any At d.length ct _ d hd tl _ ot.sees (by omega)
      rw [HY.out.1, HY.out.2.1, HY.out.2.2] at q
      unfold popV ringV at q
      refine q.mono ?_
      clear q
      rintro e w3 ⟨Ax, cx, rfl, ox, b3⟩
      have s3 := b3.size
      replace ot := ot.below b3
      replace rt := rowKeep rt b3
      clear mt0 mt1 mt2
      obtain ⟨mt0, mt1, mt2⟩ := cells3 rt
      replace hB := below_later hB b3 (Nat.le_refl _)
      clear b3
      have hn4 := below_new w3 (.cells #[.slice Ax d.length cx, .int .i64 hd, .int .i64 tl] 25)
      replace ot := ot.below hn4
      replace ox := ox.below hn4
      replace rt := rowKeep rt hn4
      clear mt0 mt1 mt2
      obtain ⟨mt0, mt1, mt2⟩ := cells3 rt
      replace hB := below_later hB hn4 (Nat.le_refl _)
      clear hn4
      have rx : (w3.alloc (.cells #[.slice Ax d.length cx, .int .i64 hd, .int .i64 tl] 25)).heap[w3.heap.size]? = some (.cells #[.slice Ax d.length cx, .int .i64 hd, .int .i64 tl] 25 (0, 0)) := heap_alloc_new _ _
      obtain ⟨mx0, mx1, mx2⟩ := cells3 rx
      have s4 : w3.heap.size < (w3.alloc (.cells #[.slice Ax d.length cx, .int .i64 hd, .int .i64 tl] 25)).heap.size := by rw [World.size_alloc]; exact Nat.lt_succ_self _
      go_wp2_with fail
      generalize (w3.alloc (.cells #[.slice Ax d.length cx, .int .i64 hd, .int .i64 tl] 25)) = u4 at *
      have q := specRingPop_any At d.length ct _ d hd tl _ ot.sees (by omega)
      rw [HY.out.1, HY.out.2.1, HY.out.2.2] at q
      unfold popV ringV at q
      refine q.mono ?_
      clear q
      rintro e w5 ⟨Ay, cy, rfl, oy, b5⟩
      have s5 := b5.size
      replace ot := ot.below b5
      replace ox := ox.below b5
      replace rt := rowKeep rt b5
      clear mt0 mt1 mt2
      obtain ⟨mt0, mt1, mt2⟩ := cells3 rt
      replace rx := rowKeep rx b5
      clear mx0 mx1 mx2
      obtain ⟨mx0, mx1, mx2⟩ := cells3 rx
      replace hB := below_later hB b5 (Nat.le_refl _)
      clear b5
      have hn6 := below_new w5 (.cells #[.slice Ay d.length cy, .int .i64 hd, .int .i64 tl] 25)
      replace ot := ot.below hn6
      replace ox := ox.below hn6
      replace oy := oy.below hn6
      replace rt := rowKeep rt hn6
      clear mt0 mt1 mt2
      obtain ⟨mt0, mt1, mt2⟩ := cells3 rt
      replace rx := rowKeep rx hn6
      clear mx0 mx1 mx2
      obtain ⟨mx0, mx1, mx2⟩ := cells3 rx
      replace hB := below_later hB hn6 (Nat.le_refl _)
      clear hn6
      have ry : (w5.alloc (.cells #[.slice Ay d.length cy, .int .i64 hd, .int .i64 tl] 25)).heap[w5.heap.size]? = some (.cells #[.slice Ay d.length cy, .int .i64 hd, .int .i64 tl] 25 (0, 0)) := heap_alloc_new _ _
      obtain ⟨my0, my1, my2⟩ := cells3 ry
      have s6 : w5.heap.size < (w5.alloc (.cells #[.slice Ay d.length cy, .int .i64 hd, .int .i64 tl] 25)).heap.size := by rw [World.size_alloc]; exact Nat.lt_succ_self _
      go_wp2_with fail
      generalize (w5.alloc (.cells #[.slice Ay d.length cy, .int .i64 hd, .int .i64 tl] 25)) = u6 at *
      refine (sameRing_t _ _ _ _ _ _ _ _ _ _ _ _ ox.sees oy.sees (by omega) (by omega)).mono ?_
      rintro e w7 ⟨rfl, b7⟩
      have s7 := b7.size
      replace ot := ot.below b7
      replace ox := ox.below b7
      replace oy := oy.below b7
      replace rt := rowKeep rt b7
      clear mt0 mt1 mt2
      obtain ⟨mt0, mt1, mt2⟩ := cells3 rt
      replace rx := rowKeep rx b7
      clear mx0 mx1 mx2
      obtain ⟨mx0, mx1, mx2⟩ := cells3 rx
      replace ry := rowKeep ry b7
      clear my0 my1 my2
      obtain ⟨my0, my1, my2⟩ := cells3 ry
      replace hB := below_later hB b7 (Nat.le_refl _)
      clear b7
      go_wp2_with fail
      refine (alive_any _).mono ?_
      rintro e w8 ⟨rfl, b8⟩
      have s8 := b8.size
      replace ot := ot.below b8
      replace ox := ox.below b8
      replace oy := oy.below b8
      replace rt := rowKeep rt b8
      clear mt0 mt1 mt2
      obtain ⟨mt0, mt1, mt2⟩ := cells3 rt
      replace rx := rowKeep rx b8
      clear mx0 mx1 mx2
      obtain ⟨mx0, mx1, mx2⟩ := cells3 rx
      replace ry := rowKeep ry b8
      clear my0 my1 my2
      obtain ⟨my0, my1, my2⟩ := cells3 ry
      replace hB := below_later hB b8 (Nat.le_refl _)
      clear b8
      go_wp2_with fail
      go_ret
      exact ⟨rfl, hB⟩
end Go.Proofs.Ytcbdphflockopaa
