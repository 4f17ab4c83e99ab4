/-
  Walk: the law FnRingCount returns true.
-/
import Derived.Test.YtmbfdjompgndiaaR9
import Derived.Test.YtmbfdjompgndiaaR7
import Derived.Test.YtmbfdjompgndiaaA
namespace Go.Proofs.Ytmbfdjompgndiaa
open Go.RowKit
set_option linter.unusedSimpArgs false
set_option linter.unusedVariables false
set_option maxHeartbeats 2000000 in
theorem law_FnRingCount (w : World) (A : Option Addr) (n c : Nat) (bs : List Int) (h : Sees w w.heap.size 1 A n c (byts bs)) (hb : ∀ v ∈ bs, 0 ≤ v ∧ v ≤ 255) :
    Calls Try.prog 12 #[.slice A n c] w (RetPure w (.bool true)) := by
  have hc1 := h.cap
  have hc2 := h.big
  by_cases hn : 1048576 < n
  · go_enter Try.func12, Try.ntmps12
    go_wp2_with fail
    go_ret
    exact ⟨rfl, Below.refl _ _⟩
  have hB : Below w.heap.size w w := Below.refl _ _
  go_enter Try.func12, Try.ntmps12
  go_wp2_with fail
  refine (drawRingCount_any _ _ _ _ _ _ h (Nat.le_refl _) hb).mono ?_
  rintro e w1 ⟨At, ct, d, hd, tl, rfl, ⟨ot, hdl⟩, ⟨hb1, hb2⟩, b1⟩
  have s1 := b1.size
  replace hB := below_later hB b1 (Nat.le_refl _)
  clear b1
  clear h hb
  have hc3 := ot.cap
  have hc4 := ot.big
  have hn2 := below_new w1 (.cells #[.slice At d.length ct, .int .i64 hd, .int .i64 tl] 27)
  replace ot := ot.below hn2
  replace hB := below_later hB hn2 (Nat.le_refl _)
  clear hn2
  have rt : (w1.alloc (.cells #[.slice At d.length ct, .int .i64 hd, .int .i64 tl] 27)).heap[w1.heap.size]? = some (.cells #[.slice At d.length ct, .int .i64 hd, .int .i64 tl] 27 (0, 0)) := heap_alloc_new _ _
  obtain ⟨mt0, mt1, mt2⟩ := cells3 rt
  have s2 : w1.heap.size < (w1.alloc (.cells #[.slice At d.length ct, .int .i64 hd, .int .i64 tl] 27)).heap.size := by rw [World.size_alloc]; exact Nat.lt_succ_self _
  cases hv : rval ⟨d, hd, tl⟩
  · have HR := Lib.hid (show rcount ⟨d, hd, tl⟩ = -1 by unfold rcount; rw [if_neg (by simp [hv])])
    clear hv
    go_wp2_with fail
    generalize (w1.alloc (.cells #[.slice At d.length ct, .int .i64 hd, .int .i64 tl] 27)) = u2 at *
    refine (implRingCount_any At d.length ct _ d hd tl _ ot.sees (by omega)).mono ?_
    rw [HR.out]
    rintro e w3 ⟨rfl, b3⟩
    have s3 := b3.size
    replace ot := ot.below b3
    replace rt := rowKeep rt b3
    clear mt0 mt1 mt2
    obtain ⟨mt0, mt1, mt2⟩ := cells3 rt
    replace hB := below_later hB b3 (Nat.le_refl _)
    clear b3
    go_wp2_with fail
    refine (specRingCount_any At d.length ct _ d hd tl _ ot.sees (by omega)).mono ?_
    rw [HR.out]
    rintro e w4 ⟨rfl, b4⟩
    have s4 := b4.size
    replace ot := ot.below b4
    replace rt := rowKeep rt b4
    clear mt0 mt1 mt2
    obtain ⟨mt0, mt1, mt2⟩ := cells3 rt
    replace hB := below_later hB b4 (Nat.le_refl _)
    clear b4
    go_wp2_with fail
    refine (alive_any _).mono ?_
    rintro e w5 ⟨rfl, b5⟩
    have s5 := b5.size
    replace ot := ot.below b5
    replace rt := rowKeep rt b5
    clear mt0 mt1 mt2
    obtain ⟨mt0, mt1, mt2⟩ := cells3 rt
    replace hB := below_later hB b5 (Nat.le_refl _)
    clear b5
    go_wp2_with fail
    go_ret
    exact ⟨rfl, hB⟩
  · obtain ⟨m, hm⟩ : ∃ m : Nat, (m : Int) = rcn ⟨d, hd, tl⟩ := ⟨(rcn ⟨d, hd, tl⟩).toNat, by have := rcn_bd _ hv; omega⟩
    have hmb := rcn_bd _ hv
    simp only at hmb
    have hml : m < d.length := by omega
    have hv' := (rval_iff _).1 hv
    simp only at hv'
    have HR := Lib.hid (show rcount ⟨d, hd, tl⟩ = (m : Int) by unfold rcount; rw [if_pos hv, hm])
    have HM := Lib.hid hm
    have HV := Lib.hid hv
    clear hmb hm
    clear hv
    go_wp2_with fail
    generalize (w1.alloc (.cells #[.slice At d.length ct, .int .i64 hd, .int .i64 tl] 27)) = u2 at *
    refine (implRingCount_any At d.length ct _ d hd tl _ ot.sees (by omega)).mono ?_
    rw [HR.out]
    rintro e w3 ⟨rfl, b3⟩
    have s3 := b3.size
    replace ot := ot.below b3
    replace rt := rowKeep rt b3
    clear mt0 mt1 mt2
    obtain ⟨mt0, mt1, mt2⟩ := cells3 rt
    replace hB := below_later hB b3 (Nat.le_refl _)
    clear b3
    go_wp2_with fail
    refine (specRingCount_any At d.length ct _ d hd tl _ ot.sees (by omega)).mono ?_
    rw [HR.out]
    rintro e w4 ⟨rfl, b4⟩
    have s4 := b4.size
    replace ot := ot.below b4
    replace rt := rowKeep rt b4
    clear mt0 mt1 mt2
    obtain ⟨mt0, mt1, mt2⟩ := cells3 rt
    replace hB := below_later hB b4 (Nat.le_refl _)
    clear b4
    cases hf : rfull ⟨d, hd, tl⟩
    · cases hn2 : rnone ⟨d, hd, tl⟩
      · have HX := rpush_put _ 5 HV.out hf
        have hc0 := rput_cn _ HV.out 5 hf
        have hb0 : (m : Int) + 1 < (d.length : Int) := by have := HM.out; have := rcn_bd _ HV.out; unfold rfull at hf; simp only [decide_eq_false_iff_not] at hf this; omega
        have hxv := rput_val _ HV.out 5
        have hxl : (rput ⟨d, hd, tl⟩ 5).slots.length = d.length := by simp [rput]
        clear hf
        replace HX := Lib.hid HX
        rw [← HM.out] at hc0
        generalize hxg : rput ⟨d, hd, tl⟩ 5 = x at *
        obtain ⟨xd, xh, xt⟩ := x
        simp only at hxl
        have HXC := Lib.hid (show rcount ⟨xd, xh, xt⟩ = (m : Int) + 1 by unfold rcount; rw [if_pos hxv, hc0])
        replace hxl := Lib.hid hxl
        clear hc0 hxv
        have HXG := Lib.hid hxg
        clear hxg
        go_wp2_with fail
        have q := implRingPush_any At d.length ct _ d hd tl 5 _ ot.sees (by omega)
        rw [HX.out.1, HX.out.2] at q
        unfold pushV ringV at q
        refine q.mono ?_
        clear q
        rintro e w5 ⟨Ax, cx, rfl, ox, b5⟩
        have s5 := b5.size
        replace ot := ot.below b5
        replace rt := rowKeep rt b5
        clear mt0 mt1 mt2
        obtain ⟨mt0, mt1, mt2⟩ := cells3 rt
        replace hB := below_later hB b5 (Nat.le_refl _)
        clear b5
        have hn6 := below_new w5 (.cells #[.slice Ax xd.length cx, .int .i64 xh, .int .i64 xt] 27)
        replace ot := ot.below hn6
        replace ox := ox.below hn6
        replace rt := rowKeep rt hn6
        clear mt0 mt1 mt2
        obtain ⟨mt0, mt1, mt2⟩ := cells3 rt
        replace hB := below_later hB hn6 (Nat.le_refl _)
        clear hn6
        have rx : (w5.alloc (.cells #[.slice Ax xd.length cx, .int .i64 xh, .int .i64 xt] 27)).heap[w5.heap.size]? = some (.cells #[.slice Ax xd.length cx, .int .i64 xh, .int .i64 xt] 27 (0, 0)) := heap_alloc_new _ _
        obtain ⟨mx0, mx1, mx2⟩ := cells3 rx
        have s6 : w5.heap.size < (w5.alloc (.cells #[.slice Ax xd.length cx, .int .i64 xh, .int .i64 xt] 27)).heap.size := by rw [World.size_alloc]; exact Nat.lt_succ_self _
        have HY := Lib.hid (rpop_cut _ HV.out hn2)
        have hc1 := rcut_cn _ HV.out hn2
        have hm0 : 0 < m := Nat.pos_of_ne_zero fun h0 => absurd ((rcn_none _ HV.out).1 (by have := HM.out; omega)) (by rw [hn2]; decide)
        have hyv := rcut_val _ HV.out
        have hyl : (rcut ⟨d, hd, tl⟩).slots = d := rfl
        clear hn2
        rw [← HM.out] at hc1
        have HYC := Lib.hid (show rcount (rcut ⟨d, hd, tl⟩) = (m : Int) - 1 by unfold rcount; rw [if_pos hyv, hc1])
        clear hc1 hyv hyl
        unfold rcut at HY HYC
        generalize hyh : ((hd + 1) % (d.length : Int)) = yh at *
        go_wp2_with fail
        generalize (w5.alloc (.cells #[.slice Ax xd.length cx, .int .i64 xh, .int .i64 xt] 27)) = u6 at *
        have q := implRingPop_any At d.length ct _ d hd tl _ ot.sees (by omega)
        rw [HY.out.1, HY.out.2.1, HY.out.2.2] at q
        unfold popV ringV at q
        refine q.mono ?_
        clear q
        rintro e w7 ⟨Ay, cy, rfl, oy, b7⟩
        have s7 := b7.size
        replace ot := ot.below b7
        replace ox := ox.below b7
        replace rt := rowKeep rt b7
        clear mt0 mt1 mt2
        obtain ⟨mt0, mt1, mt2⟩ := cells3 rt
        replace rx := rowKeep rx b7
        clear mx0 mx1 mx2
        obtain ⟨mx0, mx1, mx2⟩ := cells3 rx
        replace hB := below_later hB b7 (Nat.le_refl _)
        clear b7
        generalize d.getD hd.toNat 0 = top at *
        have hn8 := below_new w7 (.cells #[.slice Ay d.length cy, .int .i64 yh, .int .i64 tl] 27)
        replace ot := ot.below hn8
        replace ox := ox.below hn8
        replace oy := oy.below hn8
        replace rt := rowKeep rt hn8
        clear mt0 mt1 mt2
        obtain ⟨mt0, mt1, mt2⟩ := cells3 rt
        replace rx := rowKeep rx hn8
        clear mx0 mx1 mx2
        obtain ⟨mx0, mx1, mx2⟩ := cells3 rx
        replace hB := below_later hB hn8 (Nat.le_refl _)
        clear hn8
        have ry : (w7.alloc (.cells #[.slice Ay d.length cy, .int .i64 yh, .int .i64 tl] 27)).heap[w7.heap.size]? = some (.cells #[.slice Ay d.length cy, .int .i64 yh, .int .i64 tl] 27 (0, 0)) := heap_alloc_new _ _
        obtain ⟨my0, my1, my2⟩ := cells3 ry
        have s8 : w7.heap.size < (w7.alloc (.cells #[.slice Ay d.length cy, .int .i64 yh, .int .i64 tl] 27)).heap.size := by rw [World.size_alloc]; exact Nat.lt_succ_self _
        have HLL := Lib.hid (show (rls ⟨d, hd, tl⟩).length = m by have := rls_length ⟨d, hd, tl⟩; have h2 := HM.out; omega)
        go_wp2_with fail
        generalize (w7.alloc (.cells #[.slice Ay d.length cy, .int .i64 yh, .int .i64 tl] 27)) = u8 at *
        have q := implRingList_any At d.length ct _ d hd tl _ ot.sees (by omega)
        rw [rlist_of _ HV.out, HLL.out] at q
        refine q.mono ?_
        clear q
        rintro e w9 ⟨Al, cl, rfl, ol, b9⟩
        have s9 := b9.size
        replace ot := ot.below b9
        replace ox := ox.below b9
        replace oy := oy.below b9
        replace rt := rowKeep rt b9
        clear mt0 mt1 mt2
        obtain ⟨mt0, mt1, mt2⟩ := cells3 rt
        replace rx := rowKeep rx b9
        clear mx0 mx1 mx2
        obtain ⟨mx0, mx1, mx2⟩ := cells3 rx
        replace ry := rowKeep ry b9
        clear my0 my1 my2
        obtain ⟨my0, my1, my2⟩ := cells3 ry
        replace hB := below_later hB b9 (Nat.le_refl _)
        clear b9
        clear ol
        go_wp2_with fail
        refine (implRingCount_any Ax xd.length cx _ xd xh xt _ ox.sees (by omega)).mono ?_
        rw [HXC.out]
        rintro e w10 ⟨rfl, b10⟩
        have s10 := b10.size
        replace ot := ot.below b10
        replace ox := ox.below b10
        replace oy := oy.below b10
        replace rt := rowKeep rt b10
        clear mt0 mt1 mt2
        obtain ⟨mt0, mt1, mt2⟩ := cells3 rt
        replace rx := rowKeep rx b10
        clear mx0 mx1 mx2
        obtain ⟨mx0, mx1, mx2⟩ := cells3 rx
        replace ry := rowKeep ry b10
        clear my0 my1 my2
        obtain ⟨my0, my1, my2⟩ := cells3 ry
        replace hB := below_later hB b10 (Nat.le_refl _)
        clear b10
        go_wp2_with fail
        refine (implRingCount_any Ay d.length cy _ d yh tl _ oy.sees (by omega)).mono ?_
        rw [HYC.out]
        rintro e w11 ⟨rfl, b11⟩
        have s11 := b11.size
        replace ot := ot.below b11
        replace ox := ox.below b11
        replace oy := oy.below b11
        replace rt := rowKeep rt b11
        clear mt0 mt1 mt2
        obtain ⟨mt0, mt1, mt2⟩ := cells3 rt
        replace rx := rowKeep rx b11
        clear mx0 mx1 mx2
        obtain ⟨mx0, mx1, mx2⟩ := cells3 rx
        replace ry := rowKeep ry b11
        clear my0 my1 my2
        obtain ⟨my0, my1, my2⟩ := cells3 ry
        replace hB := below_later hB b11 (Nat.le_refl _)
        clear b11
        go_wp2_with fail
        go_ret
        exact ⟨rfl, hB⟩
      · have HX := rpush_put _ 5 HV.out hf
        have hc0 := rput_cn _ HV.out 5 hf
        have hb0 : (m : Int) + 1 < (d.length : Int) := by have := HM.out; have := rcn_bd _ HV.out; unfold rfull at hf; simp only [decide_eq_false_iff_not] at hf this; omega
        have hxv := rput_val _ HV.out 5
        have hxl : (rput ⟨d, hd, tl⟩ 5).slots.length = d.length := by simp [rput]
        clear hf
        replace HX := Lib.hid HX
        rw [← HM.out] at hc0
        generalize hxg : rput ⟨d, hd, tl⟩ 5 = x at *
        obtain ⟨xd, xh, xt⟩ := x
        simp only at hxl
        have HXC := Lib.hid (show rcount ⟨xd, xh, xt⟩ = (m : Int) + 1 by unfold rcount; rw [if_pos hxv, hc0])
        replace hxl := Lib.hid hxl
        clear hc0 hxv
        have HXG := Lib.hid hxg
        clear hxg
        go_wp2_with fail
        have q := implRingPush_any At d.length ct _ d hd tl 5 _ ot.sees (by omega)
        rw [HX.out.1, HX.out.2] at q
        unfold pushV ringV at q
        refine q.mono ?_
        clear q
        rintro e w5 ⟨Ax, cx, rfl, ox, b5⟩
        have s5 := b5.size
        replace ot := ot.below b5
        replace rt := rowKeep rt b5
        clear mt0 mt1 mt2
        obtain ⟨mt0, mt1, mt2⟩ := cells3 rt
        replace hB := below_later hB b5 (Nat.le_refl _)
        clear b5
        have hn6 := below_new w5 (.cells #[.slice Ax xd.length cx, .int .i64 xh, .int .i64 xt] 27)
        replace ot := ot.below hn6
        replace ox := ox.below hn6
        replace rt := rowKeep rt hn6
        clear mt0 mt1 mt2
        obtain ⟨mt0, mt1, mt2⟩ := cells3 rt
        replace hB := below_later hB hn6 (Nat.le_refl _)
        clear hn6
        have rx : (w5.alloc (.cells #[.slice Ax xd.length cx, .int .i64 xh, .int .i64 xt] 27)).heap[w5.heap.size]? = some (.cells #[.slice Ax xd.length cx, .int .i64 xh, .int .i64 xt] 27 (0, 0)) := heap_alloc_new _ _
        obtain ⟨mx0, mx1, mx2⟩ := cells3 rx
        have s6 : w5.heap.size < (w5.alloc (.cells #[.slice Ax xd.length cx, .int .i64 xh, .int .i64 xt] 27)).heap.size := by rw [World.size_alloc]; exact Nat.lt_succ_self _
        have HY := Lib.hid (rpop_none _ HV.out hn2)
        have hm0 : m ≤ 0 := by have h1 := (rcn_none _ HV.out).2 hn2; have := HM.out; omega
        have hz0 : decide ((0 : Int) < (m : Int)) = false := decide_eq_false (by omega)
        have hz1 : decide (0 < m) = false := decide_eq_false (by omega)
        clear hn2
        go_wp2_with fail
        generalize (w5.alloc (.cells #[.slice Ax xd.length cx, .int .i64 xh, .int .i64 xt] 27)) = u6 at *
        have q := implRingPop_any At d.length ct _ d hd tl _ ot.sees (by omega)
        rw [HY.out.1, HY.out.2.1, HY.out.2.2] at q
        unfold popV ringV at q
        refine q.mono ?_
        clear q
        rintro e w7 ⟨Ay, cy, rfl, oy, b7⟩
        have s7 := b7.size
        replace ot := ot.below b7
        replace ox := ox.below b7
        replace rt := rowKeep rt b7
        clear mt0 mt1 mt2
        obtain ⟨mt0, mt1, mt2⟩ := cells3 rt
        replace rx := rowKeep rx b7
        clear mx0 mx1 mx2
        obtain ⟨mx0, mx1, mx2⟩ := cells3 rx
        replace hB := below_later hB b7 (Nat.le_refl _)
        clear b7
        have hn8 := below_new w7 (.cells #[.slice Ay d.length cy, .int .i64 hd, .int .i64 tl] 27)
        replace ot := ot.below hn8
        replace ox := ox.below hn8
        replace oy := oy.below hn8
        replace rt := rowKeep rt hn8
        clear mt0 mt1 mt2
        obtain ⟨mt0, mt1, mt2⟩ := cells3 rt
        replace rx := rowKeep rx hn8
        clear mx0 mx1 mx2
        obtain ⟨mx0, mx1, mx2⟩ := cells3 rx
        replace hB := below_later hB hn8 (Nat.le_refl _)
        clear hn8
        have ry : (w7.alloc (.cells #[.slice Ay d.length cy, .int .i64 hd, .int .i64 tl] 27)).heap[w7.heap.size]? = some (.cells #[.slice Ay d.length cy, .int .i64 hd, .int .i64 tl] 27 (0, 0)) := heap_alloc_new _ _
        obtain ⟨my0, my1, my2⟩ := cells3 ry
        have s8 : w7.heap.size < (w7.alloc (.cells #[.slice Ay d.length cy, .int .i64 hd, .int .i64 tl] 27)).heap.size := by rw [World.size_alloc]; exact Nat.lt_succ_self _
        have HLL := Lib.hid (show (rls ⟨d, hd, tl⟩).length = m by have := rls_length ⟨d, hd, tl⟩; have h2 := HM.out; omega)
        go_wp2_with fail
        generalize (w7.alloc (.cells #[.slice Ay d.length cy, .int .i64 hd, .int .i64 tl] 27)) = u8 at *
        have q := implRingList_any At d.length ct _ d hd tl _ ot.sees (by omega)
        rw [rlist_of _ HV.out, HLL.out] at q
        refine q.mono ?_
        clear q
        rintro e w9 ⟨Al, cl, rfl, ol, b9⟩
        have s9 := b9.size
        replace ot := ot.below b9
        replace ox := ox.below b9
        replace oy := oy.below b9
        replace rt := rowKeep rt b9
        clear mt0 mt1 mt2
        obtain ⟨mt0, mt1, mt2⟩ := cells3 rt
        replace rx := rowKeep rx b9
        clear mx0 mx1 mx2
        obtain ⟨mx0, mx1, mx2⟩ := cells3 rx
        replace ry := rowKeep ry b9
        clear my0 my1 my2
        obtain ⟨my0, my1, my2⟩ := cells3 ry
        replace hB := below_later hB b9 (Nat.le_refl _)
        clear b9
        clear ol
        go_wp2_with fail
        refine (implRingCount_any Ax xd.length cx _ xd xh xt _ ox.sees (by omega)).mono ?_
        rw [HXC.out]
        rintro e w10 ⟨rfl, b10⟩
        have s10 := b10.size
        replace ot := ot.below b10
        replace ox := ox.below b10
        replace oy := oy.below b10
        replace rt := rowKeep rt b10
        clear mt0 mt1 mt2
        obtain ⟨mt0, mt1, mt2⟩ := cells3 rt
        replace rx := rowKeep rx b10
        clear mx0 mx1 mx2
        obtain ⟨mx0, mx1, mx2⟩ := cells3 rx
        replace ry := rowKeep ry b10
        clear my0 my1 my2
        obtain ⟨my0, my1, my2⟩ := cells3 ry
        replace hB := below_later hB b10 (Nat.le_refl _)
        clear b10
        go_wp2_with fail
        go_ret
        exact ⟨rfl, hB⟩
    · cases hn2 : rnone ⟨d, hd, tl⟩
      · have HX := rpush_full _ 5 HV.out hf
        have hb0 : decide ((m : Int) + 1 < (d.length : Int)) = false := decide_eq_false (by have := HM.out; unfold rfull at hf; simp only [decide_eq_true_iff] at hf; omega)
        clear hf
        replace HX := Lib.hid HX
        go_wp2_with fail
        have q := implRingPush_any At d.length ct _ d hd tl 5 _ ot.sees (by omega)
        rw [HX.out.1, HX.out.2] at q
        unfold pushV ringV at q
        refine q.mono ?_
        clear q
        rintro e w5 ⟨Ax, cx, rfl, ox, b5⟩
        have s5 := b5.size
        replace ot := ot.below b5
        replace rt := rowKeep rt b5
        clear mt0 mt1 mt2
        obtain ⟨mt0, mt1, mt2⟩ := cells3 rt
        replace hB := below_later hB b5 (Nat.le_refl _)
        clear b5
        have hn6 := below_new w5 (.cells #[.slice Ax d.length cx, .int .i64 hd, .int .i64 tl] 27)
        replace ot := ot.below hn6
        replace ox := ox.below hn6
        replace rt := rowKeep rt hn6
        clear mt0 mt1 mt2
        obtain ⟨mt0, mt1, mt2⟩ := cells3 rt
        replace hB := below_later hB hn6 (Nat.le_refl _)
        clear hn6
        have rx : (w5.alloc (.cells #[.slice Ax d.length cx, .int .i64 hd, .int .i64 tl] 27)).heap[w5.heap.size]? = some (.cells #[.slice Ax d.length cx, .int .i64 hd, .int .i64 tl] 27 (0, 0)) := heap_alloc_new _ _
        obtain ⟨mx0, mx1, mx2⟩ := cells3 rx
        have s6 : w5.heap.size < (w5.alloc (.cells #[.slice Ax d.length cx, .int .i64 hd, .int .i64 tl] 27)).heap.size := by rw [World.size_alloc]; exact Nat.lt_succ_self _
        have HY := Lib.hid (rpop_cut _ HV.out hn2)
        have hc1 := rcut_cn _ HV.out hn2
        have hm0 : 0 < m := Nat.pos_of_ne_zero fun h0 => absurd ((rcn_none _ HV.out).1 (by have := HM.out; omega)) (by rw [hn2]; decide)
        have hyv := rcut_val _ HV.out
        have hyl : (rcut ⟨d, hd, tl⟩).slots = d := rfl
        clear hn2
        rw [← HM.out] at hc1
        have HYC := Lib.hid (show rcount (rcut ⟨d, hd, tl⟩) = (m : Int) - 1 by unfold rcount; rw [if_pos hyv, hc1])
        clear hc1 hyv hyl
        unfold rcut at HY HYC
        generalize hyh : ((hd + 1) % (d.length : Int)) = yh at *
        go_wp2_with fail
        generalize (w5.alloc (.cells #[.slice Ax d.length cx, .int .i64 hd, .int .i64 tl] 27)) = u6 at *
        have q := implRingPop_any At d.length ct _ d hd tl _ ot.sees (by omega)
        rw [HY.out.1, HY.out.2.1, HY.out.2.2] at q
        unfold popV ringV at q
        refine q.mono ?_
        clear q
        rintro e w7 ⟨Ay, cy, rfl, oy, b7⟩
        have s7 := b7.size
        replace ot := ot.below b7
        replace ox := ox.below b7
        replace rt := rowKeep rt b7
        clear mt0 mt1 mt2
        obtain ⟨mt0, mt1, mt2⟩ := cells3 rt
        replace rx := rowKeep rx b7
        clear mx0 mx1 mx2
        obtain ⟨mx0, mx1, mx2⟩ := cells3 rx
        replace hB := below_later hB b7 (Nat.le_refl _)
        clear b7
        generalize d.getD hd.toNat 0 = top at *
        have hn8 := below_new w7 (.cells #[.slice Ay d.length cy, .int .i64 yh, .int .i64 tl] 27)
        replace ot := ot.below hn8
        replace ox := ox.below hn8
        replace oy := oy.below hn8
        replace rt := rowKeep rt hn8
        clear mt0 mt1 mt2
        obtain ⟨mt0, mt1, mt2⟩ := cells3 rt
        replace rx := rowKeep rx hn8
        clear mx0 mx1 mx2
        obtain ⟨mx0, mx1, mx2⟩ := cells3 rx
        replace hB := below_later hB hn8 (Nat.le_refl _)
        clear hn8
        have ry : (w7.alloc (.cells #[.slice Ay d.length cy, .int .i64 yh, .int .i64 tl] 27)).heap[w7.heap.size]? = some (.cells #[.slice Ay d.length cy, .int .i64 yh, .int .i64 tl] 27 (0, 0)) := heap_alloc_new _ _
        obtain ⟨my0, my1, my2⟩ := cells3 ry
        have s8 : w7.heap.size < (w7.alloc (.cells #[.slice Ay d.length cy, .int .i64 yh, .int .i64 tl] 27)).heap.size := by rw [World.size_alloc]; exact Nat.lt_succ_self _
        have HLL := Lib.hid (show (rls ⟨d, hd, tl⟩).length = m by have := rls_length ⟨d, hd, tl⟩; have h2 := HM.out; omega)
        go_wp2_with fail
        generalize (w7.alloc (.cells #[.slice Ay d.length cy, .int .i64 yh, .int .i64 tl] 27)) = u8 at *
        have q := implRingList_any At d.length ct _ d hd tl _ ot.sees (by omega)
        rw [rlist_of _ HV.out, HLL.out] at q
        refine q.mono ?_
        clear q
        rintro e w9 ⟨Al, cl, rfl, ol, b9⟩
        have s9 := b9.size
        replace ot := ot.below b9
        replace ox := ox.below b9
        replace oy := oy.below b9
        replace rt := rowKeep rt b9
        clear mt0 mt1 mt2
        obtain ⟨mt0, mt1, mt2⟩ := cells3 rt
        replace rx := rowKeep rx b9
        clear mx0 mx1 mx2
        obtain ⟨mx0, mx1, mx2⟩ := cells3 rx
        replace ry := rowKeep ry b9
        clear my0 my1 my2
        obtain ⟨my0, my1, my2⟩ := cells3 ry
        replace hB := below_later hB b9 (Nat.le_refl _)
        clear b9
        clear ol
        go_wp2_with fail
        refine (implRingCount_any Ay d.length cy _ d yh tl _ oy.sees (by omega)).mono ?_
        rw [HYC.out]
        rintro e w10 ⟨rfl, b10⟩
        have s10 := b10.size
        replace ot := ot.below b10
        replace ox := ox.below b10
        replace oy := oy.below b10
        replace rt := rowKeep rt b10
        clear mt0 mt1 mt2
        obtain ⟨mt0, mt1, mt2⟩ := cells3 rt
        replace rx := rowKeep rx b10
        clear mx0 mx1 mx2
        obtain ⟨mx0, mx1, mx2⟩ := cells3 rx
        replace ry := rowKeep ry b10
        clear my0 my1 my2
        obtain ⟨my0, my1, my2⟩ := cells3 ry
        replace hB := below_later hB b10 (Nat.le_refl _)
        clear b10
        go_wp2_with fail
        go_ret
        exact ⟨rfl, hB⟩
      · have HX := rpush_full _ 5 HV.out hf
        have hb0 : decide ((m : Int) + 1 < (d.length : Int)) = false := decide_eq_false (by have := HM.out; unfold rfull at hf; simp only [decide_eq_true_iff] at hf; omega)
        clear hf
        replace HX := Lib.hid HX
        go_wp2_with fail
        have q := implRingPush_any At d.length ct _ d hd tl 5 _ ot.sees (by omega)
        rw [HX.out.1, HX.out.2] at q
        unfold pushV ringV at q
        refine q.mono ?_
        clear q
        rintro e w5 ⟨Ax, cx, rfl, ox, b5⟩
        have s5 := b5.size
        replace ot := ot.below b5
        replace rt := rowKeep rt b5
        clear mt0 mt1 mt2
        obtain ⟨mt0, mt1, mt2⟩ := cells3 rt
        replace hB := below_later hB b5 (Nat.le_refl _)
        clear b5
        have hn6 := below_new w5 (.cells #[.slice Ax d.length cx, .int .i64 hd, .int .i64 tl] 27)
        replace ot := ot.below hn6
        replace ox := ox.below hn6
        replace rt := rowKeep rt hn6
        clear mt0 mt1 mt2
        obtain ⟨mt0, mt1, mt2⟩ := cells3 rt
        replace hB := below_later hB hn6 (Nat.le_refl _)
        clear hn6
        have rx : (w5.alloc (.cells #[.slice Ax d.length cx, .int .i64 hd, .int .i64 tl] 27)).heap[w5.heap.size]? = some (.cells #[.slice Ax d.length cx, .int .i64 hd, .int .i64 tl] 27 (0, 0)) := heap_alloc_new _ _
        obtain ⟨mx0, mx1, mx2⟩ := cells3 rx
        have s6 : w5.heap.size < (w5.alloc (.cells #[.slice Ax d.length cx, .int .i64 hd, .int .i64 tl] 27)).heap.size := by rw [World.size_alloc]; exact Nat.lt_succ_self _
        have HY := Lib.hid (rpop_none _ HV.out hn2)
        have hm0 : m ≤ 0 := by have h1 := (rcn_none _ HV.out).2 hn2; have := HM.out; omega
        have hz0 : decide ((0 : Int) < (m : Int)) = false := decide_eq_false (by omega)
        have hz1 : decide (0 < m) = false := decide_eq_false (by omega)
        clear hn2
        go_wp2_with fail
        generalize (w5.alloc (.cells #[.slice Ax d.length cx, .int .i64 hd, .int .i64 tl] 27)) = u6 at *
        have q := implRingPop_any At d.length ct _ d hd tl _ ot.sees (by omega)
        rw [HY.out.1, HY.out.2.1, HY.out.2.2] at q
        unfold popV ringV at q
        refine q.mono ?_
        clear q
        rintro e w7 ⟨Ay, cy, rfl, oy, b7⟩
        have s7 := b7.size
        replace ot := ot.below b7
        replace ox := ox.below b7
        replace rt := rowKeep rt b7
        clear mt0 mt1 mt2
        obtain ⟨mt0, mt1, mt2⟩ := cells3 rt
        replace rx := rowKeep rx b7
        clear mx0 mx1 mx2
        obtain ⟨mx0, mx1, mx2⟩ := cells3 rx
        replace hB := below_later hB b7 (Nat.le_refl _)
        clear b7
        have hn8 := below_new w7 (.cells #[.slice Ay d.length cy, .int .i64 hd, .int .i64 tl] 27)
        replace ot := ot.below hn8
        replace ox := ox.below hn8
        replace oy := oy.below hn8
        replace rt := rowKeep rt hn8
        clear mt0 mt1 mt2
        obtain ⟨mt0, mt1, mt2⟩ := cells3 rt
        replace rx := rowKeep rx hn8
        clear mx0 mx1 mx2
        obtain ⟨mx0, mx1, mx2⟩ := cells3 rx
        replace hB := below_later hB hn8 (Nat.le_refl _)
        clear hn8
        have ry : (w7.alloc (.cells #[.slice Ay d.length cy, .int .i64 hd, .int .i64 tl] 27)).heap[w7.heap.size]? = some (.cells #[.slice Ay d.length cy, .int .i64 hd, .int .i64 tl] 27 (0, 0)) := heap_alloc_new _ _
        obtain ⟨my0, my1, my2⟩ := cells3 ry
        have s8 : w7.heap.size < (w7.alloc (.cells #[.slice Ay d.length cy, .int .i64 hd, .int .i64 tl] 27)).heap.size := by rw [World.size_alloc]; exact Nat.lt_succ_self _
        have HLL := Lib.hid (show (rls ⟨d, hd, tl⟩).length = m by have := rls_length ⟨d, hd, tl⟩; have h2 := HM.out; omega)
        go_wp2_with fail
        generalize (w7.alloc (.cells #[.slice Ay d.length cy, .int .i64 hd, .int .i64 tl] 27)) = u8 at *
        have q := implRingList_any At d.length ct _ d hd tl _ ot.sees (by omega)
        rw [rlist_of _ HV.out, HLL.out] at q
        refine q.mono ?_
        clear q
        rintro e w9 ⟨Al, cl, rfl, ol, b9⟩
        have s9 := b9.size
        replace ot := ot.below b9
        replace ox := ox.below b9
        replace oy := oy.below b9
        replace rt := rowKeep rt b9
        clear mt0 mt1 mt2
        obtain ⟨mt0, mt1, mt2⟩ := cells3 rt
        replace rx := rowKeep rx b9
        clear mx0 mx1 mx2
        obtain ⟨mx0, mx1, mx2⟩ := cells3 rx
        replace ry := rowKeep ry b9
        clear my0 my1 my2
        obtain ⟨my0, my1, my2⟩ := cells3 ry
        replace hB := below_later hB b9 (Nat.le_refl _)
        clear b9
        clear ol
        go_wp2_with fail
        go_ret
        exact ⟨rfl, hB⟩
end Go.Proofs.Ytmbfdjompgndiaa
