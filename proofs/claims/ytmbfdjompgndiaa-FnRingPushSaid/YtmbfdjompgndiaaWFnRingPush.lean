/-
  Walk: the law FnRingPush returns true.
-/
import Derived.Test.YtmbfdjompgndiaaR9
import Derived.Test.YtmbfdjompgndiaaR7
import Derived.Test.YtmbfdjompgndiaaS3
import Derived.Test.YtmbfdjompgndiaaA
namespace Go.Proofs.Ytmbfdjompgndiaa
open Go.RowKit
set_option linter.unusedSimpArgs false
set_option linter.unusedVariables false
set_option maxHeartbeats 40000000 in
theorem law_FnRingPush (w : World) (A : Option Addr) (n c : Nat) (bs : List Int) (h : Sees w w.heap.size 1 A n c (byts bs)) (hb : ∀ v ∈ bs, 0 ≤ v ∧ v ≤ 255) :
    Calls Try.prog 15 #[.slice A n c] w (RetPure w (.bool true)) := by
  have hc1 := h.cap
  have hc2 := h.big
  by_cases hn : 1048576 < n
  · go_enter Try.func15, Try.ntmps15
    go_wp2_with fail
    go_ret
    exact ⟨rfl, Below.refl _ _⟩
  have hB : Below w.heap.size w w := Below.refl _ _
  go_enter Try.func15, Try.ntmps15
  go_wp2_with fail
  refine (drawRingPush_any _ _ _ _ _ _ h (Nat.le_refl _) hb).mono ?_
  rintro e w1 ⟨At, ct, d, hd, tl, v, rfl, ⟨ot, hdl⟩, ⟨hb1, hb2, hv1⟩, b1⟩
  have s1 := b1.size
  replace hB := below_later hB b1 (Nat.le_refl _)
  clear b1
  clear h hb
  have hc3 := ot.cap
  have hc4 := ot.big
  have hn2 := below_new w1 (.cells #[.slice At d.length ct, .int .i64 hd, .int .i64 tl] 27)
  replace ot := ot.below hn2
  replace hB := below_later hB hn2 (Nat.le_refl _)
  clear hn2
  have rt : (w1.alloc (.cells #[.slice At d.length ct, .int .i64 hd, .int .i64 tl] 27)).heap[w1.heap.size]? = some (.cells #[.slice At d.length ct, .int .i64 hd, .int .i64 tl] 27 (0, 0)) := heap_alloc_new _ _
  obtain ⟨mt0, mt1, mt2⟩ := cells3 rt
  have s2 : w1.heap.size < (w1.alloc (.cells #[.slice At d.length ct, .int .i64 hd, .int .i64 tl] 27)).heap.size := by rw [World.size_alloc]; exact Nat.lt_succ_self _
  obtain ⟨i0, hi0, hz0, hz1, hz2⟩ := info_parts int_info
  cases hv : rval ⟨d, hd, tl⟩
  · have HY := Lib.hid (rpush_no ⟨d, hd, tl⟩ v hv)
    have HV := Lib.hid hv
    clear hv
    go_wp2_with fail
    generalize (w1.alloc (.cells #[.slice At d.length ct, .int .i64 hd, .int .i64 tl] 27)) = u2 at *
    have q := implRingPush_any At d.length ct _ d hd tl v _ ot.sees (by omega)
    rw [HY.out.1, HY.out.2] at q
    unfold pushV ringV at q
    simp only [rz, List.length_nil] at q
    refine q.mono ?_
    clear q
    rintro e w3 ⟨Ax, cx, rfl, ox, b3⟩
    have s3 := b3.size
    replace ot := ot.below b3
    replace rt := rowKeep rt b3
    clear mt0 mt1 mt2
    obtain ⟨mt0, mt1, mt2⟩ := cells3 rt
    replace hB := below_later hB b3 (Nat.le_refl _)
    clear b3
    have hn4 := below_new w3 (.cells #[.slice Ax 0 cx, .int .i64 0, .int .i64 0] 27)
    replace ot := ot.below hn4
    replace ox := ox.below hn4
    replace rt := rowKeep rt hn4
    clear mt0 mt1 mt2
    obtain ⟨mt0, mt1, mt2⟩ := cells3 rt
    replace hB := below_later hB hn4 (Nat.le_refl _)
    clear hn4
    have rx : (w3.alloc (.cells #[.slice Ax 0 cx, .int .i64 0, .int .i64 0] 27)).heap[w3.heap.size]? = some (.cells #[.slice Ax 0 cx, .int .i64 0, .int .i64 0] 27 (0, 0)) := heap_alloc_new _ _
    obtain ⟨mx0, mx1, mx2⟩ := cells3 rx
    have s4 : w3.heap.size < (w3.alloc (.cells #[.slice Ax 0 cx, .int .i64 0, .int .i64 0] 27)).heap.size := by rw [World.size_alloc]; exact Nat.lt_succ_self _
    go_wp2_with fail
    generalize (w3.alloc (.cells #[.slice Ax 0 cx, .int .i64 0, .int .i64 0] 27)) = u4 at *
    have q := specRingPush_any At d.length ct _ d hd tl v _ ot.sees (by omega)
    rw [HY.out.1, HY.out.2] at q
    unfold pushV ringV at q
    simp only [rz, List.length_nil] at q
    refine q.mono ?_
    clear q
    rintro e w5 ⟨Ay, cy, rfl, oy, b5⟩
    have s5 := b5.size
    replace ot := ot.below b5
    replace ox := ox.below b5
    replace rt := rowKeep rt b5
    clear mt0 mt1 mt2
    obtain ⟨mt0, mt1, mt2⟩ := cells3 rt
    replace rx := rowKeep rx b5
    clear mx0 mx1 mx2
    obtain ⟨mx0, mx1, mx2⟩ := cells3 rx
    replace hB := below_later hB b5 (Nat.le_refl _)
    clear b5
    have hn6 := below_new w5 (.cells #[.slice Ay 0 cy, .int .i64 0, .int .i64 0] 27)
    replace ot := ot.below hn6
    replace ox := ox.below hn6
    replace oy := oy.below hn6
    replace rt := rowKeep rt hn6
    clear mt0 mt1 mt2
    obtain ⟨mt0, mt1, mt2⟩ := cells3 rt
    replace rx := rowKeep rx hn6
    clear mx0 mx1 mx2
    obtain ⟨mx0, mx1, mx2⟩ := cells3 rx
    replace hB := below_later hB hn6 (Nat.le_refl _)
    clear hn6
    have ry : (w5.alloc (.cells #[.slice Ay 0 cy, .int .i64 0, .int .i64 0] 27)).heap[w5.heap.size]? = some (.cells #[.slice Ay 0 cy, .int .i64 0, .int .i64 0] 27 (0, 0)) := heap_alloc_new _ _
    obtain ⟨my0, my1, my2⟩ := cells3 ry
    have s6 : w5.heap.size < (w5.alloc (.cells #[.slice Ay 0 cy, .int .i64 0, .int .i64 0] 27)).heap.size := by rw [World.size_alloc]; exact Nat.lt_succ_self _
    go_wp2_with fail
    generalize (w5.alloc (.cells #[.slice Ay 0 cy, .int .i64 0, .int .i64 0] 27)) = u6 at *
    refine (sameRing_t _ _ _ _ _ _ _ _ _ _ _ _ ox.sees oy.sees (by omega) (by omega)).mono ?_
    rintro e w7 ⟨rfl, b7⟩
    have s7 := b7.size
    replace ot := ot.below b7
    replace ox := ox.below b7
    replace oy := oy.below b7
    replace rt := rowKeep rt b7
    clear mt0 mt1 mt2
    obtain ⟨mt0, mt1, mt2⟩ := cells3 rt
    replace rx := rowKeep rx b7
    clear mx0 mx1 mx2
    obtain ⟨mx0, mx1, mx2⟩ := cells3 rx
    replace ry := rowKeep ry b7
    clear my0 my1 my2
    obtain ⟨my0, my1, my2⟩ := cells3 ry
    replace hB := below_later hB b7 (Nat.le_refl _)
    clear b7
    go_wp2_with fail
    refine (specRingValid_any At d.length ct _ d hd tl _ ot.sees).mono ?_
    rw [HV.out]
    rintro e w8 ⟨rfl, b8⟩
    have s8 := b8.size
    replace ot := ot.below b8
    replace ox := ox.below b8
    replace oy := oy.below b8
    replace rt := rowKeep rt b8
    clear mt0 mt1 mt2
    obtain ⟨mt0, mt1, mt2⟩ := cells3 rt
    replace rx := rowKeep rx b8
    clear mx0 mx1 mx2
    obtain ⟨mx0, mx1, mx2⟩ := cells3 rx
    replace ry := rowKeep ry b8
    clear my0 my1 my2
    obtain ⟨my0, my1, my2⟩ := cells3 ry
    replace hB := below_later hB b8 (Nat.le_refl _)
    clear b8
    go_wp2_with fail
    refine (alive_any _).mono ?_
    rintro e w9 ⟨rfl, b9⟩
    have s9 := b9.size
    replace ot := ot.below b9
    replace ox := ox.below b9
    replace oy := oy.below b9
    replace rt := rowKeep rt b9
    clear mt0 mt1 mt2
    obtain ⟨mt0, mt1, mt2⟩ := cells3 rt
    replace rx := rowKeep rx b9
    clear mx0 mx1 mx2
    obtain ⟨mx0, mx1, mx2⟩ := cells3 rx
    replace ry := rowKeep ry b9
    clear my0 my1 my2
    obtain ⟨my0, my1, my2⟩ := cells3 ry
    replace hB := below_later hB b9 (Nat.le_refl _)
    clear b9
    go_wp2_with fail
    go_ret
    exact ⟨rfl, hB⟩
  · have HV := Lib.hid hv
    have hv' := (rval_iff _).1 hv
    simp only at hv'
    cases hf : rfull ⟨d, hd, tl⟩
    · have hy := rpush_put _ v hv hf
      have hput := rput_list _ hv v hf
      have hpv := rput_val _ hv v
      have hxl : (rput ⟨d, hd, tl⟩ v).slots.length = d.length := by simp [rput]
      have hl1 := rlist_16 ⟨d, hd, tl⟩
      rw [← rlist_of _ hv, ← rlist_of _ hpv] at hput
      clear hv hf
      generalize rput ⟨d, hd, tl⟩ v = x at *
      obtain ⟨xd, xh, xt⟩ := x
      simp only at hxl
      generalize hL1 : rlist ⟨d, hd, tl⟩ = L1 at *
      have HAP := Lib.hid (show ints L1 ++ [.int .i64 v] = ints (L1 ++ [v]) by simp [ints])
      have hl2 : (L1 ++ [v]).length ≤ 17 := by simp; omega
      generalize L1 ++ [v] = L2 at *
      have HL1 := Lib.hid hL1
      have HL0 := Lib.hid hput
      have HY := Lib.hid hy
      have HX := Lib.hid hpv
      clear hL1 hput hy hpv
      replace hxl := Lib.hid hxl
      go_wp2_with fail
      generalize (w1.alloc (.cells #[.slice At d.length ct, .int .i64 hd, .int .i64 tl] 27)) = u2 at *
      have q := implRingPush_any At d.length ct _ d hd tl v _ ot.sees (by omega)
      rw [HY.out.1, HY.out.2] at q
      unfold pushV ringV at q
      refine q.mono ?_
      clear q
      rintro e w3 ⟨Ax, cx, rfl, ox, b3⟩
      have s3 := b3.size
      replace ot := ot.below b3
      replace rt := rowKeep rt b3
      clear mt0 mt1 mt2
      obtain ⟨mt0, mt1, mt2⟩ := cells3 rt
      replace hB := below_later hB b3 (Nat.le_refl _)
      clear b3
      have hn4 := below_new w3 (.cells #[.slice Ax xd.length cx, .int .i64 xh, .int .i64 xt] 27)
      replace ot := ot.below hn4
      replace ox := ox.below hn4
      replace rt := rowKeep rt hn4
      clear mt0 mt1 mt2
      obtain ⟨mt0, mt1, mt2⟩ := cells3 rt
      replace hB := below_later hB hn4 (Nat.le_refl _)
      clear hn4
      have rx : (w3.alloc (.cells #[.slice Ax xd.length cx, .int .i64 xh, .int .i64 xt] 27)).heap[w3.heap.size]? = some (.cells #[.slice Ax xd.length cx, .int .i64 xh, .int .i64 xt] 27 (0, 0)) := heap_alloc_new _ _
      obtain ⟨mx0, mx1, mx2⟩ := cells3 rx
      have s4 : w3.heap.size < (w3.alloc (.cells #[.slice Ax xd.length cx, .int .i64 xh, .int .i64 xt] 27)).heap.size := by rw [World.size_alloc]; exact Nat.lt_succ_self _
      go_wp2_with fail
      generalize (w3.alloc (.cells #[.slice Ax xd.length cx, .int .i64 xh, .int .i64 xt] 27)) = u4 at *
      have q := specRingPush_any At d.length ct _ d hd tl v _ ot.sees (by omega)
      rw [HY.out.1, HY.out.2] at q
      unfold pushV ringV at q
      refine q.mono ?_
      clear q
      rintro e w5 ⟨Ay, cy, rfl, oy, b5⟩
      have s5 := b5.size
      replace ot := ot.below b5
      replace ox := ox.below b5
      replace rt := rowKeep rt b5
      clear mt0 mt1 mt2
      obtain ⟨mt0, mt1, mt2⟩ := cells3 rt
      replace rx := rowKeep rx b5
      clear mx0 mx1 mx2
      obtain ⟨mx0, mx1, mx2⟩ := cells3 rx
      replace hB := below_later hB b5 (Nat.le_refl _)
      clear b5
      have hn6 := below_new w5 (.cells #[.slice Ay xd.length cy, .int .i64 xh, .int .i64 xt] 27)
      replace ot := ot.below hn6
      replace ox := ox.below hn6
      replace oy := oy.below hn6
      replace rt := rowKeep rt hn6
      clear mt0 mt1 mt2
      obtain ⟨mt0, mt1, mt2⟩ := cells3 rt
      replace rx := rowKeep rx hn6
      clear mx0 mx1 mx2
      obtain ⟨mx0, mx1, mx2⟩ := cells3 rx
      replace hB := below_later hB hn6 (Nat.le_refl _)
      clear hn6
      have ry : (w5.alloc (.cells #[.slice Ay xd.length cy, .int .i64 xh, .int .i64 xt] 27)).heap[w5.heap.size]? = some (.cells #[.slice Ay xd.length cy, .int .i64 xh, .int .i64 xt] 27 (0, 0)) := heap_alloc_new _ _
      obtain ⟨my0, my1, my2⟩ := cells3 ry
      have s6 : w5.heap.size < (w5.alloc (.cells #[.slice Ay xd.length cy, .int .i64 xh, .int .i64 xt] 27)).heap.size := by rw [World.size_alloc]; exact Nat.lt_succ_self _
      go_wp2_with fail
      generalize (w5.alloc (.cells #[.slice Ay xd.length cy, .int .i64 xh, .int .i64 xt] 27)) = u6 at *
      refine (sameRing_t _ _ _ _ _ _ _ _ _ _ _ _ ox.sees oy.sees (by omega) (by omega)).mono ?_
      rintro e w7 ⟨rfl, b7⟩
      have s7 := b7.size
      replace ot := ot.below b7
      replace ox := ox.below b7
      replace oy := oy.below b7
      replace rt := rowKeep rt b7
      clear mt0 mt1 mt2
      obtain ⟨mt0, mt1, mt2⟩ := cells3 rt
      replace rx := rowKeep rx b7
      clear mx0 mx1 mx2
      obtain ⟨mx0, mx1, mx2⟩ := cells3 rx
      replace ry := rowKeep ry b7
      clear my0 my1 my2
      obtain ⟨my0, my1, my2⟩ := cells3 ry
      replace hB := below_later hB b7 (Nat.le_refl _)
      clear b7
      go_wp2_with fail
      refine (specRingValid_any At d.length ct _ d hd tl _ ot.sees).mono ?_
      rw [HV.out]
      rintro e w8 ⟨rfl, b8⟩
      have s8 := b8.size
      replace ot := ot.below b8
      replace ox := ox.below b8
      replace oy := oy.below b8
      replace rt := rowKeep rt b8
      clear mt0 mt1 mt2
      obtain ⟨mt0, mt1, mt2⟩ := cells3 rt
      replace rx := rowKeep rx b8
      clear mx0 mx1 mx2
      obtain ⟨mx0, mx1, mx2⟩ := cells3 rx
      replace ry := rowKeep ry b8
      clear my0 my1 my2
      obtain ⟨my0, my1, my2⟩ := cells3 ry
      replace hB := below_later hB b8 (Nat.le_refl _)
      clear b8
      go_wp2_with fail
      clear oy
      clear ry my0 my1 my2
      have hn9 : Below w8.heap.size w8 w8.drew := below_drewN (Below.refl _ _) 1
      have s9 : w8.heap.size ≤ w8.drew.heap.size := Nat.le_refl _
      replace ot := ot.below hn9
      replace ox := ox.below hn9
      replace rt := rowKeep rt hn9
      clear mt0 mt1 mt2
      obtain ⟨mt0, mt1, mt2⟩ := cells3 rt
      replace rx := rowKeep rx hn9
      clear mx0 mx1 mx2
      obtain ⟨mx0, mx1, mx2⟩ := cells3 rx
      replace hB := below_later hB hn9 (Nat.le_refl _)
      clear hn9
      refine wp_region_noPanic ?_
      refine wp_region_held_drew (S := fun w' => w'.cell? ⟨w3.heap.size, 0, none⟩ = some (.slice Ax xd.length cx) ∧ w'.cell? ⟨w3.heap.size, 1, none⟩ = some (.int .i64 xh) ∧ w'.cell? ⟨w3.heap.size, 2, none⟩ = some (.int .i64 xt) ∧ w'.cell? ⟨w1.heap.size, 0, none⟩ = some (.slice At d.length ct) ∧ w'.cell? ⟨w1.heap.size, 1, none⟩ = some (.int .i64 hd) ∧ w'.cell? ⟨w1.heap.size, 2, none⟩ = some (.int .i64 tl)) (by kernel_rfl) ⟨mx0, mx1, mx2, mt0, mt1, mt2⟩ (fun hHeld => ?_)
      generalize w8.drew = u9 at *
      refine wpAnyH_take (i := 0) (v := ?_) rfl (by kernel_rfl) (by kernel_rfl) (by kernel_rfl) (fun _ _ _ h => h) (Or.inl ⟨by rfl, ?_⟩) (by assumption) ?_
      rotate_left
      · (intro wz hSw; (try dsimp only at hSw); go_simp; try with_reducible rfl)
      simp only [Act.put, List.getElem_toArray, List.getElem_cons_zero, List.getElem_cons_succ, List.setIfInBounds_toArray, List.set_cons_zero, List.set_cons_succ]
      refine wpAnyH_ready (rs := [1]) (by kernel_rfl) (by simp) ?_
      refine AllReadyH.cons rfl (fun K hK => ?_) ?_
      · go_simp
        have q := implRingValid_any Ax xd.length cx _ xd xh xt _ ox.sees
        rw [HX.out] at q
        refine q.mono ?_
        clear q
        rintro e w10 ⟨rfl, b10⟩
        have s10 := b10.size
        replace ot := ot.below b10
        replace ox := ox.below b10
        replace rt := rowKeep rt b10
        clear mt0 mt1 mt2
        obtain ⟨mt0, mt1, mt2⟩ := cells3 rt
        replace rx := rowKeep rx b10
        clear mx0 mx1 mx2
        obtain ⟨mx0, mx1, mx2⟩ := cells3 rx
        replace hB := below_later hB b10 (Nat.le_refl _)
        clear b10
        refine hK.out _ _ ⟨mx0, mx1, mx2, mt0, mt1, mt2⟩ (fun hHeld => ?_)
        clear hK K
        try simp only [Act.put, List.getElem_toArray, List.getElem_cons_zero, List.getElem_cons_succ, List.setIfInBounds_toArray, List.set_cons_zero, List.set_cons_succ]
        refine wpAnyH_take (i := 2) (v := ?_) rfl (by kernel_rfl) (by kernel_rfl) (by kernel_rfl) (fun _ _ _ h => h) (Or.inl ⟨by rfl, ?_⟩) (by assumption) ?_
        rotate_left
        · (intro wz hSw; (try dsimp only at hSw); go_simp; try with_reducible rfl)
        simp only [Act.put, List.getElem_toArray, List.getElem_cons_zero, List.getElem_cons_succ, List.setIfInBounds_toArray, List.set_cons_zero, List.set_cons_succ]
        refine wpAnyH_take (i := 3) (v := ?_) rfl (by kernel_rfl) (by kernel_rfl) (by kernel_rfl) (fun _ _ _ h => h) (Or.inl ⟨by rfl, ?_⟩) (by assumption) ?_
        rotate_left
        · (intro wz hSw; (try dsimp only at hSw); go_simp; try with_reducible rfl)
        simp only [Act.put, List.getElem_toArray, List.getElem_cons_zero, List.getElem_cons_succ, List.setIfInBounds_toArray, List.set_cons_zero, List.set_cons_succ]
        refine wpAnyH_take (i := 5) (v := ?_) rfl (by kernel_rfl) (by kernel_rfl) (by kernel_rfl) (fun _ _ _ h => h) (Or.inl ⟨by rfl, ?_⟩) (by assumption) ?_
        rotate_left
        · (intro wz hSw; (try dsimp only at hSw); go_simp; try with_reducible rfl)
        simp only [Act.put, List.getElem_toArray, List.getElem_cons_zero, List.getElem_cons_succ, List.setIfInBounds_toArray, List.set_cons_zero, List.set_cons_succ]
        refine wpAnyH_take (i := 7) (v := ?_) rfl (by kernel_rfl) (by kernel_rfl) (by kernel_rfl) (fun _ _ _ h => h) (Or.inl ⟨by rfl, ?_⟩) (by assumption) ?_
        rotate_left
        · (intro wz hSw; (try dsimp only at hSw); go_simp; try with_reducible rfl)
        simp only [Act.put, List.getElem_toArray, List.getElem_cons_zero, List.getElem_cons_succ, List.setIfInBounds_toArray, List.set_cons_zero, List.set_cons_succ]
        refine wpAnyH_ready (rs := [4, 8]) (by kernel_rfl) (by simp) ?_
        refine AllReadyH.cons rfl (fun K hK => ?_) ?_
        · go_simp
          have q := implRingList_any Ax xd.length cx _ xd xh xt _ ox.sees (by omega)
          rw [HL0.out] at q
          refine q.mono ?_
          clear q
          rintro e w11 ⟨Am, cm, rfl, om, b11⟩
          have s11 := b11.size
          replace ot := ot.below b11
          replace ox := ox.below b11
          replace rt := rowKeep rt b11
          clear mt0 mt1 mt2
          obtain ⟨mt0, mt1, mt2⟩ := cells3 rt
          replace rx := rowKeep rx b11
          clear mx0 mx1 mx2
          obtain ⟨mx0, mx1, mx2⟩ := cells3 rx
          replace hB := below_later hB b11 (Nat.le_refl _)
          clear b11
          refine hK.out _ _ ⟨mx0, mx1, mx2, mt0, mt1, mt2⟩ (fun hHeld => ?_)
          clear hK K
          try simp only [Act.put, List.getElem_toArray, List.getElem_cons_zero, List.getElem_cons_succ, List.setIfInBounds_toArray, List.set_cons_zero, List.set_cons_succ]
          refine wpAnyH_ready (rs := [6, 8]) (by kernel_rfl) (by simp) ?_
          refine AllReadyH.cons rfl (fun K hK => ?_) ?_
          · go_simp
            have q := implRingList_any At d.length ct _ d hd tl _ ot.sees (by omega)
            rw [HL1.out] at q
            refine q.mono ?_
            clear q
            rintro e w12 ⟨Al, cl, rfl, ol, b12⟩
            have s12 := b12.size
            replace ot := ot.below b12
            replace ox := ox.below b12
            replace om := om.below b12
            replace rt := rowKeep rt b12
            clear mt0 mt1 mt2
            obtain ⟨mt0, mt1, mt2⟩ := cells3 rt
            replace rx := rowKeep rx b12
            clear mx0 mx1 mx2
            obtain ⟨mx0, mx1, mx2⟩ := cells3 rx
            replace hB := below_later hB b12 (Nat.le_refl _)
            clear b12
            refine hK.out _ _ ⟨mx0, mx1, mx2, mt0, mt1, mt2⟩ (fun hHeld => ?_)
            clear hK K
            try simp only [Act.put, List.getElem_toArray, List.getElem_cons_zero, List.getElem_cons_succ, List.setIfInBounds_toArray, List.set_cons_zero, List.set_cons_succ]
            refine wpAnyH_ready (rs := [8]) (by kernel_rfl) (by simp) ?_
            refine AllReadyH.cons rfl (fun K hK => ?_) ?_
            · go_simp
              have hn13 := below_new w12 (.cells #[.int .i64 v] 3)
              have oq := newOne w12 3 (.int .i64 v)
              replace ot := ot.below hn13
              replace ox := ox.below hn13
              replace om := om.below hn13
              replace ol := ol.below hn13
              replace rt := rowKeep rt hn13
              clear mt0 mt1 mt2
              obtain ⟨mt0, mt1, mt2⟩ := cells3 rt
              replace rx := rowKeep rx hn13
              clear mx0 mx1 mx2
              obtain ⟨mx0, mx1, mx2⟩ := cells3 rx
              replace hB := below_later hB hn13 (Nat.le_refl _)
              clear hn13
              have s13 : w12.heap.size + 1 ≤ (w12.alloc (.cells #[.int .i64 v] 3)).heap.size := by rw [World.size_alloc]; exact Nat.le_refl _
              generalize (w12.alloc (.cells #[.int .i64 v] 3)) = u13 at *
              refine hK.out _ _ ⟨mx0, mx1, mx2, mt0, mt1, mt2⟩ (fun hHeld => ?_)
              clear hK K
              try simp only [Act.put, List.getElem_toArray, List.getElem_cons_zero, List.getElem_cons_succ, List.setIfInBounds_toArray, List.set_cons_zero, List.set_cons_succ]
              refine wpAnyH_ready (rs := [9]) (by kernel_rfl) (by simp) ?_
              refine AllReadyH.cons rfl (fun K hK => ?_) ?_
              · rw [if_pos (by rfl)]
                refine wp_app _ (.tmp 63) (.tmp 65) _ (by rfl) 3 i0 (.int .i64 0) 1 8 Try.underlying22 hi0 hz0 hz1 hz2 rfl (by decide) _ _ _ _ _ _ (by rfl) ol _ _ _ _ _ (by rfl) (oq.sees) (one_int _) (by omega) (by omega) (by omega) ?_
                intro Ap cp w14 op f14
                have s14 := f14.size
                rw [HAP.out] at op
                replace ot := ot.fr f14 (by omega)
                replace ox := ox.fr f14 (by omega)
                replace om := om.fr f14 (by omega)
                replace oq := oq.fr f14 (by omega)
                replace rt := rowFr rt f14 (by omega)
                clear mt0 mt1 mt2
                obtain ⟨mt0, mt1, mt2⟩ := cells3 rt
                replace rx := rowFr rx f14 (by omega)
                clear mx0 mx1 mx2
                obtain ⟨mx0, mx1, mx2⟩ := cells3 rx
                replace hB := f14.below hB (by omega) (Nat.le_refl _)
                clear f14 ol
                refine hK.out _ _ ⟨mx0, mx1, mx2, mt0, mt1, mt2⟩ (fun hHeld => ?_)
                clear hK K
                try simp only [Act.put, List.getElem_toArray, List.getElem_cons_zero, List.getElem_cons_succ, List.setIfInBounds_toArray, List.set_cons_zero, List.set_cons_succ]
                refine wpAnyH_ready (rs := [10]) (by kernel_rfl) (by simp) ?_
                refine AllReadyH.cons rfl (fun K hK => ?_) ?_
                · go_simp
                  refine (sameInts_t _ _ _ _ _ _ _ _ L2 _ om.sees op.sees).mono ?_
                  rintro e w15 ⟨rfl, b15⟩
                  have s15 := b15.size
                  replace ot := ot.below b15
                  replace ox := ox.below b15
                  replace om := om.below b15
                  replace oq := oq.below b15
                  replace op := op.below b15
                  replace rt := rowKeep rt b15
                  clear mt0 mt1 mt2
                  obtain ⟨mt0, mt1, mt2⟩ := cells3 rt
                  replace rx := rowKeep rx b15
                  clear mx0 mx1 mx2
                  obtain ⟨mx0, mx1, mx2⟩ := cells3 rx
                  replace hB := below_later hB b15 (Nat.le_refl _)
                  clear b15
                  refine hK.out _ _ ⟨mx0, mx1, mx2, mt0, mt1, mt2⟩ (fun hHeld => ?_)
                  clear hK K
                  try simp only [Act.put, List.getElem_toArray, List.getElem_cons_zero, List.getElem_cons_succ, List.setIfInBounds_toArray, List.set_cons_zero, List.set_cons_succ]
                  refine wpAnyH_take (i := 11) (v := ?_) rfl (by kernel_rfl) (by kernel_rfl) (by kernel_rfl) (fun _ _ _ h => h) (Or.inl ⟨by rfl, ?_⟩) (by assumption) ?_
                  rotate_left
                  · (intro wz hSw; (try dsimp only at hSw); go_simp; try with_reducible rfl)
                  simp only [Act.put, List.getElem_toArray, List.getElem_cons_zero, List.getElem_cons_succ, List.setIfInBounds_toArray, List.set_cons_zero, List.set_cons_succ]
                  refine wpAnyH_take (i := 12) (v := ?_) rfl (by kernel_rfl) (by kernel_rfl) (by kernel_rfl) (fun _ _ _ h => h) (Or.inl ⟨by rfl, ?_⟩) (by assumption) ?_
                  rotate_left
                  · (intro wz hSw; (try dsimp only at hSw); go_simp; try with_reducible rfl)
                  simp only [Act.put, List.getElem_toArray, List.getElem_cons_zero, List.getElem_cons_succ, List.setIfInBounds_toArray, List.set_cons_zero, List.set_cons_succ]
                  refine wpAnyH_done (by kernel_rfl) ?_ _
                  refine NoPanic.normal ?_
                  go_wp2_with fail
                  go_ret
                  exact ⟨rfl, hB⟩
                exact AllReadyH.nil
              exact AllReadyH.nil
            exact AllReadyH.nil
          refine AllReadyH.cons rfl (fun K hK => ?_) ?_
          · go_simp
            have hn12 := below_new w11 (.cells #[.int .i64 v] 3)
            have oq := newOne w11 3 (.int .i64 v)
            replace ot := ot.below hn12
            replace ox := ox.below hn12
            replace om := om.below hn12
            replace rt := rowKeep rt hn12
            clear mt0 mt1 mt2
            obtain ⟨mt0, mt1, mt2⟩ := cells3 rt
            replace rx := rowKeep rx hn12
            clear mx0 mx1 mx2
            obtain ⟨mx0, mx1, mx2⟩ := cells3 rx
            replace hB := below_later hB hn12 (Nat.le_refl _)
            clear hn12
            have s12 : w11.heap.size + 1 ≤ (w11.alloc (.cells #[.int .i64 v] 3)).heap.size := by rw [World.size_alloc]; exact Nat.le_refl _
            generalize (w11.alloc (.cells #[.int .i64 v] 3)) = u12 at *
            refine hK.out _ _ ⟨mx0, mx1, mx2, mt0, mt1, mt2⟩ (fun hHeld => ?_)
            clear hK K
            try simp only [Act.put, List.getElem_toArray, List.getElem_cons_zero, List.getElem_cons_succ, List.setIfInBounds_toArray, List.set_cons_zero, List.set_cons_succ]
            refine wpAnyH_ready (rs := [6]) (by kernel_rfl) (by simp) ?_
            refine AllReadyH.cons rfl (fun K hK => ?_) ?_
            · go_simp
              have q := implRingList_any At d.length ct _ d hd tl _ ot.sees (by omega)
              rw [HL1.out] at q
              refine q.mono ?_
              clear q
              rintro e w13 ⟨Al, cl, rfl, ol, b13⟩
              have s13 := b13.size
              replace ot := ot.below b13
              replace ox := ox.below b13
              replace om := om.below b13
              replace oq := oq.below b13
              replace rt := rowKeep rt b13
              clear mt0 mt1 mt2
              obtain ⟨mt0, mt1, mt2⟩ := cells3 rt
              replace rx := rowKeep rx b13
              clear mx0 mx1 mx2
              obtain ⟨mx0, mx1, mx2⟩ := cells3 rx
              replace hB := below_later hB b13 (Nat.le_refl _)
              clear b13
              refine hK.out _ _ ⟨mx0, mx1, mx2, mt0, mt1, mt2⟩ (fun hHeld => ?_)
              clear hK K
              try simp only [Act.put, List.getElem_toArray, List.getElem_cons_zero, List.getElem_cons_succ, List.setIfInBounds_toArray, List.set_cons_zero, List.set_cons_succ]
              refine wpAnyH_ready (rs := [9]) (by kernel_rfl) (by simp) ?_
              refine AllReadyH.cons rfl (fun K hK => ?_) ?_
              · rw [if_pos (by rfl)]
                refine wp_app _ (.tmp 63) (.tmp 65) _ (by rfl) 3 i0 (.int .i64 0) 1 8 Try.underlying22 hi0 hz0 hz1 hz2 rfl (by decide) _ _ _ _ _ _ (by rfl) ol _ _ _ _ _ (by rfl) (oq.sees) (one_int _) (by omega) (by omega) (by omega) ?_
                intro Ap cp w14 op f14
                have s14 := f14.size
                rw [HAP.out] at op
                replace ot := ot.fr f14 (by omega)
                replace ox := ox.fr f14 (by omega)
                replace om := om.fr f14 (by omega)
                replace oq := oq.fr f14 (by omega)
                replace rt := rowFr rt f14 (by omega)
                clear mt0 mt1 mt2
                obtain ⟨mt0, mt1, mt2⟩ := cells3 rt
                replace rx := rowFr rx f14 (by omega)
                clear mx0 mx1 mx2
                obtain ⟨mx0, mx1, mx2⟩ := cells3 rx
                replace hB := f14.below hB (by omega) (Nat.le_refl _)
                clear f14 ol
                refine hK.out _ _ ⟨mx0, mx1, mx2, mt0, mt1, mt2⟩ (fun hHeld => ?_)
                clear hK K
                try simp only [Act.put, List.getElem_toArray, List.getElem_cons_zero, List.getElem_cons_succ, List.setIfInBounds_toArray, List.set_cons_zero, List.set_cons_succ]
                refine wpAnyH_ready (rs := [10]) (by kernel_rfl) (by simp) ?_
                refine AllReadyH.cons rfl (fun K hK => ?_) ?_
                · go_simp
                  refine (sameInts_t _ _ _ _ _ _ _ _ L2 _ om.sees op.sees).mono ?_
                  rintro e w15 ⟨rfl, b15⟩
                  have s15 := b15.size
                  replace ot := ot.below b15
                  replace ox := ox.below b15
                  replace om := om.below b15
                  replace oq := oq.below b15
                  replace op := op.below b15
                  replace rt := rowKeep rt b15
                  clear mt0 mt1 mt2
                  obtain ⟨mt0, mt1, mt2⟩ := cells3 rt
                  replace rx := rowKeep rx b15
                  clear mx0 mx1 mx2
                  obtain ⟨mx0, mx1, mx2⟩ := cells3 rx
                  replace hB := below_later hB b15 (Nat.le_refl _)
                  clear b15
                  refine hK.out _ _ ⟨mx0, mx1, mx2, mt0, mt1, mt2⟩ (fun hHeld => ?_)
                  clear hK K
                  try simp only [Act.put, List.getElem_toArray, List.getElem_cons_zero, List.getElem_cons_succ, List.setIfInBounds_toArray, List.set_cons_zero, List.set_cons_succ]
                  refine wpAnyH_take (i := 11) (v := ?_) rfl (by kernel_rfl) (by kernel_rfl) (by kernel_rfl) (fun _ _ _ h => h) (Or.inl ⟨by rfl, ?_⟩) (by assumption) ?_
                  rotate_left
                  · (intro wz hSw; (try dsimp only at hSw); go_simp; try with_reducible rfl)
                  simp only [Act.put, List.getElem_toArray, List.getElem_cons_zero, List.getElem_cons_succ, List.setIfInBounds_toArray, List.set_cons_zero, List.set_cons_succ]
                  refine wpAnyH_take (i := 12) (v := ?_) rfl (by kernel_rfl) (by kernel_rfl) (by kernel_rfl) (fun _ _ _ h => h) (Or.inl ⟨by rfl, ?_⟩) (by assumption) ?_
                  rotate_left
                  · (intro wz hSw; (try dsimp only at hSw); go_simp; try with_reducible rfl)
                  simp only [Act.put, List.getElem_toArray, List.getElem_cons_zero, List.getElem_cons_succ, List.setIfInBounds_toArray, List.set_cons_zero, List.set_cons_succ]
                  refine wpAnyH_done (by kernel_rfl) ?_ _
                  refine NoPanic.normal ?_
                  go_wp2_with fail
                  go_ret
                  exact ⟨rfl, hB⟩
                exact AllReadyH.nil
              exact AllReadyH.nil
            exact AllReadyH.nil
          exact AllReadyH.nil
        refine AllReadyH.cons rfl (fun K hK => ?_) ?_
        · go_simp
          have hn11 := below_new w10 (.cells #[.int .i64 v] 3)
          have oq := newOne w10 3 (.int .i64 v)
          replace ot := ot.below hn11
          replace ox := ox.below hn11
          replace rt := rowKeep rt hn11
          clear mt0 mt1 mt2
          obtain ⟨mt0, mt1, mt2⟩ := cells3 rt
          replace rx := rowKeep rx hn11
          clear mx0 mx1 mx2
          obtain ⟨mx0, mx1, mx2⟩ := cells3 rx
          replace hB := below_later hB hn11 (Nat.le_refl _)
          clear hn11
          have s11 : w10.heap.size + 1 ≤ (w10.alloc (.cells #[.int .i64 v] 3)).heap.size := by rw [World.size_alloc]; exact Nat.le_refl _
          generalize (w10.alloc (.cells #[.int .i64 v] 3)) = u11 at *
          refine hK.out _ _ ⟨mx0, mx1, mx2, mt0, mt1, mt2⟩ (fun hHeld => ?_)
          clear hK K
          try simp only [Act.put, List.getElem_toArray, List.getElem_cons_zero, List.getElem_cons_succ, List.setIfInBounds_toArray, List.set_cons_zero, List.set_cons_succ]
          refine wpAnyH_ready (rs := [4]) (by kernel_rfl) (by simp) ?_
          refine AllReadyH.cons rfl (fun K hK => ?_) ?_
          · go_simp
            have q := implRingList_any Ax xd.length cx _ xd xh xt _ ox.sees (by omega)
            rw [HL0.out] at q
            refine q.mono ?_
            clear q
            rintro e w12 ⟨Am, cm, rfl, om, b12⟩
            have s12 := b12.size
            replace ot := ot.below b12
            replace ox := ox.below b12
            replace oq := oq.below b12
            replace rt := rowKeep rt b12
            clear mt0 mt1 mt2
            obtain ⟨mt0, mt1, mt2⟩ := cells3 rt
            replace rx := rowKeep rx b12
            clear mx0 mx1 mx2
            obtain ⟨mx0, mx1, mx2⟩ := cells3 rx
            replace hB := below_later hB b12 (Nat.le_refl _)
            clear b12
            refine hK.out _ _ ⟨mx0, mx1, mx2, mt0, mt1, mt2⟩ (fun hHeld => ?_)
            clear hK K
            try simp only [Act.put, List.getElem_toArray, List.getElem_cons_zero, List.getElem_cons_succ, List.setIfInBounds_toArray, List.set_cons_zero, List.set_cons_succ]
            refine wpAnyH_ready (rs := [6]) (by kernel_rfl) (by simp) ?_
            refine AllReadyH.cons rfl (fun K hK => ?_) ?_
            · go_simp
              have q := implRingList_any At d.length ct _ d hd tl _ ot.sees (by omega)
              rw [HL1.out] at q
              refine q.mono ?_
              clear q
              rintro e w13 ⟨Al, cl, rfl, ol, b13⟩
              have s13 := b13.size
              replace ot := ot.below b13
              replace ox := ox.below b13
              replace oq := oq.below b13
              replace om := om.below b13
              replace rt := rowKeep rt b13
              clear mt0 mt1 mt2
              obtain ⟨mt0, mt1, mt2⟩ := cells3 rt
              replace rx := rowKeep rx b13
              clear mx0 mx1 mx2
              obtain ⟨mx0, mx1, mx2⟩ := cells3 rx
              replace hB := below_later hB b13 (Nat.le_refl _)
              clear b13
              refine hK.out _ _ ⟨mx0, mx1, mx2, mt0, mt1, mt2⟩ (fun hHeld => ?_)
              clear hK K
              try simp only [Act.put, List.getElem_toArray, List.getElem_cons_zero, List.getElem_cons_succ, List.setIfInBounds_toArray, List.set_cons_zero, List.set_cons_succ]
              refine wpAnyH_ready (rs := [9]) (by kernel_rfl) (by simp) ?_
              refine AllReadyH.cons rfl (fun K hK => ?_) ?_
              · rw [if_pos (by rfl)]
                refine wp_app _ (.tmp 63) (.tmp 65) _ (by rfl) 3 i0 (.int .i64 0) 1 8 Try.underlying22 hi0 hz0 hz1 hz2 rfl (by decide) _ _ _ _ _ _ (by rfl) ol _ _ _ _ _ (by rfl) (oq.sees) (one_int _) (by omega) (by omega) (by omega) ?_
                intro Ap cp w14 op f14
                have s14 := f14.size
                rw [HAP.out] at op
                replace ot := ot.fr f14 (by omega)
                replace ox := ox.fr f14 (by omega)
                replace oq := oq.fr f14 (by omega)
                replace om := om.fr f14 (by omega)
                replace rt := rowFr rt f14 (by omega)
                clear mt0 mt1 mt2
                obtain ⟨mt0, mt1, mt2⟩ := cells3 rt
                replace rx := rowFr rx f14 (by omega)
                clear mx0 mx1 mx2
                obtain ⟨mx0, mx1, mx2⟩ := cells3 rx
                replace hB := f14.below hB (by omega) (Nat.le_refl _)
                clear f14 ol
                refine hK.out _ _ ⟨mx0, mx1, mx2, mt0, mt1, mt2⟩ (fun hHeld => ?_)
                clear hK K
                try simp only [Act.put, List.getElem_toArray, List.getElem_cons_zero, List.getElem_cons_succ, List.setIfInBounds_toArray, List.set_cons_zero, List.set_cons_succ]
                refine wpAnyH_ready (rs := [10]) (by kernel_rfl) (by simp) ?_
                refine AllReadyH.cons rfl (fun K hK => ?_) ?_
                · go_simp
                  refine (sameInts_t _ _ _ _ _ _ _ _ L2 _ om.sees op.sees).mono ?_
                  rintro e w15 ⟨rfl, b15⟩
                  have s15 := b15.size
                  replace ot := ot.below b15
                  replace ox := ox.below b15
                  replace oq := oq.below b15
                  replace om := om.below b15
                  replace op := op.below b15
                  replace rt := rowKeep rt b15
                  clear mt0 mt1 mt2
                  obtain ⟨mt0, mt1, mt2⟩ := cells3 rt
                  replace rx := rowKeep rx b15
                  clear mx0 mx1 mx2
                  obtain ⟨mx0, mx1, mx2⟩ := cells3 rx
                  replace hB := below_later hB b15 (Nat.le_refl _)
                  clear b15
                  refine hK.out _ _ ⟨mx0, mx1, mx2, mt0, mt1, mt2⟩ (fun hHeld => ?_)
                  clear hK K
                  try simp only [Act.put, List.getElem_toArray, List.getElem_cons_zero, List.getElem_cons_succ, List.setIfInBounds_toArray, List.set_cons_zero, List.set_cons_succ]
                  refine wpAnyH_take (i := 11) (v := ?_) rfl (by kernel_rfl) (by kernel_rfl) (by kernel_rfl) (fun _ _ _ h => h) (Or.inl ⟨by rfl, ?_⟩) (by assumption) ?_
                  rotate_left
                  · (intro wz hSw; (try dsimp only at hSw); go_simp; try with_reducible rfl)
                  simp only [Act.put, List.getElem_toArray, List.getElem_cons_zero, List.getElem_cons_succ, List.setIfInBounds_toArray, List.set_cons_zero, List.set_cons_succ]
                  refine wpAnyH_take (i := 12) (v := ?_) rfl (by kernel_rfl) (by kernel_rfl) (by kernel_rfl) (fun _ _ _ h => h) (Or.inl ⟨by rfl, ?_⟩) (by assumption) ?_
                  rotate_left
                  · (intro wz hSw; (try dsimp only at hSw); go_simp; try with_reducible rfl)
                  simp only [Act.put, List.getElem_toArray, List.getElem_cons_zero, List.getElem_cons_succ, List.setIfInBounds_toArray, List.set_cons_zero, List.set_cons_succ]
                  refine wpAnyH_done (by kernel_rfl) ?_ _
                  refine NoPanic.normal ?_
                  go_wp2_with fail
                  go_ret
                  exact ⟨rfl, hB⟩
                exact AllReadyH.nil
              exact AllReadyH.nil
            exact AllReadyH.nil
          exact AllReadyH.nil
        exact AllReadyH.nil
      exact AllReadyH.nil
    · have HY := Lib.hid (rpush_full _ v hv hf)
      clear hv hf
      go_wp2_with fail
      generalize (w1.alloc (.cells #[.slice At d.length ct, .int .i64 hd, .int .i64 tl] 27)) = u2 at *
      have q := implRingPush_any At d.length ct _ d hd tl v _ ot.sees (by omega)
      rw [HY.out.1, HY.out.2] at q
      unfold pushV ringV at q
      refine q.mono ?_
      clear q
      rintro e w3 ⟨Ax, cx, rfl, ox, b3⟩
      have s3 := b3.size
      replace ot := ot.below b3
      replace rt := rowKeep rt b3
      clear mt0 mt1 mt2
      obtain ⟨mt0, mt1, mt2⟩ := cells3 rt
      replace hB := below_later hB b3 (Nat.le_refl _)
      clear b3
      have hn4 := below_new w3 (.cells #[.slice Ax d.length cx, .int .i64 hd, .int .i64 tl] 27)
      replace ot := ot.below hn4
      replace ox := ox.below hn4
      replace rt := rowKeep rt hn4
      clear mt0 mt1 mt2
      obtain ⟨mt0, mt1, mt2⟩ := cells3 rt
      replace hB := below_later hB hn4 (Nat.le_refl _)
      clear hn4
      have rx : (w3.alloc (.cells #[.slice Ax d.length cx, .int .i64 hd, .int .i64 tl] 27)).heap[w3.heap.size]? = some (.cells #[.slice Ax d.length cx, .int .i64 hd, .int .i64 tl] 27 (0, 0)) := heap_alloc_new _ _
      obtain ⟨mx0, mx1, mx2⟩ := cells3 rx
      have s4 : w3.heap.size < (w3.alloc (.cells #[.slice Ax d.length cx, .int .i64 hd, .int .i64 tl] 27)).heap.size := by rw [World.size_alloc]; exact Nat.lt_succ_self _
      go_wp2_with fail
      generalize (w3.alloc (.cells #[.slice Ax d.length cx, .int .i64 hd, .int .i64 tl] 27)) = u4 at *
      have q := specRingPush_any At d.length ct _ d hd tl v _ ot.sees (by omega)
      rw [HY.out.1, HY.out.2] at q
      unfold pushV ringV at q
      refine q.mono ?_
      clear q
      rintro e w5 ⟨Ay, cy, rfl, oy, b5⟩
      have s5 := b5.size
      replace ot := ot.below b5
      replace ox := ox.below b5
      replace rt := rowKeep rt b5
      clear mt0 mt1 mt2
      obtain ⟨mt0, mt1, mt2⟩ := cells3 rt
      replace rx := rowKeep rx b5
      clear mx0 mx1 mx2
      obtain ⟨mx0, mx1, mx2⟩ := cells3 rx
      replace hB := below_later hB b5 (Nat.le_refl _)
      clear b5
      have hn6 := below_new w5 (.cells #[.slice Ay d.length cy, .int .i64 hd, .int .i64 tl] 27)
      replace ot := ot.below hn6
      replace ox := ox.below hn6
      replace oy := oy.below hn6
      replace rt := rowKeep rt hn6
      clear mt0 mt1 mt2
      obtain ⟨mt0, mt1, mt2⟩ := cells3 rt
      replace rx := rowKeep rx hn6
      clear mx0 mx1 mx2
      obtain ⟨mx0, mx1, mx2⟩ := cells3 rx
      replace hB := below_later hB hn6 (Nat.le_refl _)
      clear hn6
      have ry : (w5.alloc (.cells #[.slice Ay d.length cy, .int .i64 hd, .int .i64 tl] 27)).heap[w5.heap.size]? = some (.cells #[.slice Ay d.length cy, .int .i64 hd, .int .i64 tl] 27 (0, 0)) := heap_alloc_new _ _
      obtain ⟨my0, my1, my2⟩ := cells3 ry
      have s6 : w5.heap.size < (w5.alloc (.cells #[.slice Ay d.length cy, .int .i64 hd, .int .i64 tl] 27)).heap.size := by rw [World.size_alloc]; exact Nat.lt_succ_self _
      go_wp2_with fail
      generalize (w5.alloc (.cells #[.slice Ay d.length cy, .int .i64 hd, .int .i64 tl] 27)) = u6 at *
      refine (sameRing_t _ _ _ _ _ _ _ _ _ _ _ _ ox.sees oy.sees (by omega) (by omega)).mono ?_
      rintro e w7 ⟨rfl, b7⟩
      have s7 := b7.size
      replace ot := ot.below b7
      replace ox := ox.below b7
      replace oy := oy.below b7
      replace rt := rowKeep rt b7
      clear mt0 mt1 mt2
      obtain ⟨mt0, mt1, mt2⟩ := cells3 rt
      replace rx := rowKeep rx b7
      clear mx0 mx1 mx2
      obtain ⟨mx0, mx1, mx2⟩ := cells3 rx
      replace ry := rowKeep ry b7
      clear my0 my1 my2
      obtain ⟨my0, my1, my2⟩ := cells3 ry
      replace hB := below_later hB b7 (Nat.le_refl _)
      clear b7
      go_wp2_with fail
      refine (specRingValid_any At d.length ct _ d hd tl _ ot.sees).mono ?_
      rw [HV.out]
      rintro e w8 ⟨rfl, b8⟩
      have s8 := b8.size
      replace ot := ot.below b8
      replace ox := ox.below b8
      replace oy := oy.below b8
      replace rt := rowKeep rt b8
      clear mt0 mt1 mt2
      obtain ⟨mt0, mt1, mt2⟩ := cells3 rt
      replace rx := rowKeep rx b8
      clear mx0 mx1 mx2
      obtain ⟨mx0, mx1, mx2⟩ := cells3 rx
      replace ry := rowKeep ry b8
      clear my0 my1 my2
      obtain ⟨my0, my1, my2⟩ := cells3 ry
      replace hB := below_later hB b8 (Nat.le_refl _)
      clear b8
      go_wp2_with fail
      refine (sameRing_t _ _ _ _ _ _ _ _ _ _ _ _ ox.sees ot.sees (by omega) (by omega)).mono ?_
      rintro e w9 ⟨rfl, b9⟩
      have s9 := b9.size
      replace ot := ot.below b9
      replace ox := ox.below b9
      replace oy := oy.below b9
      replace rt := rowKeep rt b9
      clear mt0 mt1 mt2
      obtain ⟨mt0, mt1, mt2⟩ := cells3 rt
      replace rx := rowKeep rx b9
      clear mx0 mx1 mx2
      obtain ⟨mx0, mx1, mx2⟩ := cells3 rx
      replace ry := rowKeep ry b9
      clear my0 my1 my2
      obtain ⟨my0, my1, my2⟩ := cells3 ry
      replace hB := below_later hB b9 (Nat.le_refl _)
      clear b9
      go_wp2_with fail
      go_ret
      exact ⟨rfl, hB⟩
end Go.Proofs.Ytmbfdjompgndiaa
