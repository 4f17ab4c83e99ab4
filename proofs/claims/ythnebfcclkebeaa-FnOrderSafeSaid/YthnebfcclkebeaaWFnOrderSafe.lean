/-
  Walk: the law FnOrderSafe returns true.
-/
import Derived.Deep.DeepCutAuto
import Derived.IntWalk
import Derived.Deep.RegionHeld3
import Derived.Deep.DrawnRows
import Derived.Test.YthnebfcclkebeaaM8
import Derived.Test.YthnebfcclkebeaaM9
import Derived.Test.YthnebfcclkebeaaP4
import Derived.Test.YthnebfcclkebeaaM19
import Derived.Test.YthnebfcclkebeaaPlainO
import Derived.Test.YthnebfcclkebeaaM14
import Derived.Test.YthnebfcclkebeaaM20
import Derived.Test.YthnebfcclkebeaaA
namespace Go.Proofs.Ythnebfcclkebeaa
open Go.RowKit
attribute [local go_sem ↓] Go.wp_at_zero Go.wp_at_succ
set_option linter.unusedSimpArgs false
set_option linter.unusedVariables false
set_option maxHeartbeats 4000000 in
theorem law_FnOrderSafe (w : World) (A : Option Addr) (n c : Nat) (bs : List Int) (h : Sees w w.heap.size 1 A n c (byts bs)) (hb : ∀ v ∈ bs, 0 ≤ v ∧ v ≤ 255) (A' : Option Addr) (n' c' : Nat) (bs' : List Int) (h' : Sees w w.heap.size 1 A' n' c' (byts bs')) (hb' : ∀ v ∈ bs', 0 ≤ v ∧ v ≤ 255) :
    Calls Try.prog 6 #[.slice A n c, .slice A' n' c'] w (RetPure w (.bool true)) := by
  have hc1 := h.cap
  have hc2 := h.big
  have hc3 := h'.cap
  have hc4 := h'.big
  by_cases hn1 : 1048576 < n
  · go_enter Try.func6, Try.ntmps6
    go_wp2_with fail
    go_ret
    exact ⟨rfl, Below.refl _ _⟩
  by_cases hn2 : 1048576 < n'
  · go_enter Try.func6, Try.ntmps6
    go_wp2_with fail
    go_ret
    exact ⟨rfl, Below.refl _ _⟩
  have hB : Below w.heap.size w w := Below.refl _ _
  go_enter Try.func6, Try.ntmps6
  go_wp2_with fail
  refine (drawOrderSafe_any _ _ _ _ _ _ h (Nat.le_refl _) hb).mono ?_
  rintro e w3 ⟨Al, nl, cl, l, Ao, co, o, rfl, ⟨ol, hnl⟩, oo, b3⟩
  have s3 := b3.size
  replace h' := h'.below b3 hB.size
  replace hB := below_later hB b3 (Nat.le_refl _)
  clear b3
  clear h hb
  have hlc := ol.cap
  have hoc := oo.cap
  have HLL := Lib.hid ol.sees.cmd
  have HOL := Lib.hid oo.sees.int
  obtain ⟨i0, hi0, hz0, hz1, hz2⟩ := info_parts int_info
  obtain ⟨ok, hletter⟩ : ∃ y, safeO l o = y := ⟨_, rfl⟩
  have HK := Lib.hid hletter
  clear hletter
  go_wp2_with fail
  have q := implOrderSafe_any _ _ _ _ _ _ _ _ (l) (o) _ (ol.sees) (oo.sees) (by omega) (by omega)
  rw [HK.out] at q
  refine q.mono ?_
  clear q
  rintro e w4 ⟨rfl, b4⟩
  have s4 := b4.size
  replace ol := ol.below b4
  replace oo := oo.below b4
  replace h' := h'.below b4 hB.size
  replace hB := below_later hB b4 (Nat.le_refl _)
  clear b4
  go_wp2_with fail
  have q := specOrderSafe_any _ _ _ _ _ _ _ _ (l) (o) _ (ol.sees) (oo.sees) (by omega) (by omega)
  rw [HK.out] at q
  refine q.mono ?_
  clear q
  rintro e w5 ⟨rfl, b5⟩
  have s5 := b5.size
  replace ol := ol.below b5
  replace oo := oo.below b5
  replace h' := h'.below b5 hB.size
  replace hB := below_later hB b5 (Nat.le_refl _)
  clear b5
  have ol3 := ol
  have oo3 := oo
  have hB3 := hB
  go_wp2_with fail
  refine (drawDiskSum_any _ _ _ _ _ _ h' hB.size hb').mono ?_
  rintro e w6 ⟨Ad, nd, cd, d, rfl, od, hnd, b6⟩
  have bD := b6
  have s6 := b6.size
  replace ol := ol.below b6
  replace oo := oo.below b6
  replace h' := h'.below b6 hB.size
  replace hB := below_later hB b6 (Nat.le_refl _)
  clear b6
  clear h' hb' ol oo hB
  have OD := Lib.hid od
  have BD := Lib.hid bD
  clear od bD
  go_upto_region 8 with fail
  go_loopw [8] (fun t1 wr => ∃ (A2 : Option Addr) (m c2 : Nat) (D : List Int), m ≤ 65 ∧ t1 = .slice A2 m c2 ∧ Own wr w5.heap.size wr.heap.size 3 1 A2 m c2 (ints D) ∧ Below w5.heap.size w5 wr) (fun t _ => 20 - slen t)
  case atStart => exact ⟨_, _, _, _, hnd, rfl, OD.out, BD.out⟩
  case round =>
    clear OD BD
    obtain ⟨A2, m, c2, D, hm65, rfl, o2, bW⟩ := hrel
    have sW := bW.size
    by_cases hm20 : m < 20
    · have p1 := o2.below (below_new wr (.cells #[.int .i64 (7 * (m : Int))] 3))
      have q1 := Sees.one wr 3 (.int .i64 (7 * (m : Int)))
      have B1 := below_later bW (below_new wr (.cells #[.int .i64 (7 * (m : Int))] 3)) (Nat.le_refl _)
      have S1 := B1.size
      clear o2
      have HI : Hid (ints D ++ [Value.int .i64 (7 * (m : Int))] = ints (D ++ [7 * (m : Int)])) := Lib.hid (by rw [ints_app]; rfl)
      generalize ints D = xs0 at *
      have e9 : IntKind.i64.wrap (7 * (m : Int)) = 7 * (m : Int) := IntWalk.i64_in _ (by omega)
      go_wp2_with (at_builtin; refine wpList_app _ rfl (.tmp 40) (.tmp 44) _ rfl 3 i0 (.int .i64 0) 1 8 Try.underlying22 hi0 hz0 hz1 hz2 rfl (by decide) _ _ _ _ _ _ rfl p1 _ _ _ _ _ rfl q1 (one_int _) (by omega) (by omega) S1 ?_; intro A3 c3 w33 o3 f3; rw [HI.out] at o3; have B3 := f3.below B1 (Nat.le_refl _) (Nat.le_refl _))
      go_roundw
      case rel => exact ⟨_, m + 1, _, _, by omega, rfl, o3, B3⟩
      case measure => simp [slen]; omega
    · have ol := ol3.below bW
      have oo := oo3.below bW
      have hB := below_later hB3 bW (Nat.le_refl _)
      clear ol3 oo3 hB3
      have od := o2
      clear o2
      have HDL := Lib.hid od.sees.int
      have hdc := od.cap
      have dlt : decide ((m : Int) < 20) = false := decide_eq_false (by omega)
      generalize wr = wo at *
      cases ok
      · skip
        go_wp2_with fail
        refine (alive_any _).mono ?_
        rintro e w7 ⟨rfl, b7⟩
        have s7 := b7.size
        replace ol := ol.below b7
        replace oo := oo.below b7
        replace od := od.below b7
        replace hB := below_later hB b7 (Nat.le_refl _)
        clear b7
        go_wp2_with fail
        go_ret
        exact ⟨rfl, hB⟩
      · cases hd : dval D
        · go_wp2_with fail
          have q := specDiskValid_any _ _ _ _ D _ od.sees
          rw [hd] at q
          refine q.mono ?_
          clear q
          rintro e w' ⟨rfl, rfl⟩
          go_wp2_with fail
          refine (alive_any _).mono ?_
          rintro e w7 ⟨rfl, b7⟩
          have s7 := b7.size
          replace ol := ol.below b7
          replace oo := oo.below b7
          replace od := od.below b7
          replace hB := below_later hB b7 (Nat.le_refl _)
          clear b7
          go_wp2_with fail
          go_ret
          exact ⟨rfl, hB⟩
        · go_wp2_with fail
          have q := specDiskValid_any _ _ _ _ D _ od.sees
          rw [hd] at q
          refine q.mono ?_
          clear q
          rintro e w' ⟨rfl, rfl⟩
          cases hv : bval l (m : Int)
          · go_wp2_with fail
            have q := specBatchValid_any _ _ _ _ l (m : Int) _ ol.sees (by omega) (by omega)
            rw [hv] at q
            refine q.mono ?_
            clear q
            rintro e w7 ⟨rfl, b7⟩
            have s7 := b7.size
            replace ol := ol.below b7
            replace oo := oo.below b7
            replace od := od.below b7
            replace hB := below_later hB b7 (Nat.le_refl _)
            clear b7
            go_wp2_with fail
            refine (alive_any _).mono ?_
            rintro e w8 ⟨rfl, b8⟩
            have s8 := b8.size
            replace ol := ol.below b8
            replace oo := oo.below b8
            replace od := od.below b8
            replace hB := below_later hB b8 (Nat.le_refl _)
            clear b8
            go_wp2_with fail
            go_ret
            exact ⟨rfl, hB⟩
          · go_wp2_with fail
            have q := specBatchValid_any _ _ _ _ l (m : Int) _ ol.sees (by omega) (by omega)
            rw [hv] at q
            refine q.mono ?_
            clear q
            rintro e w7 ⟨rfl, b7⟩
            have s7 := b7.size
            replace ol := ol.below b7
            replace oo := oo.below b7
            replace od := od.below b7
            replace hB := below_later hB b7 (Nat.le_refl _)
            clear b7
            obtain ⟨r1, r2, r3, r4⟩ := safe_run l o D HK.out hd (by rw [HDL.out]; exact hv)
            have hord := ((safeO_iff l o).1 HK.out).2.1
            obtain ⟨L2, hletter⟩ : ∃ y, applyO l o = y := ⟨_, rfl⟩
            simp only [hletter] at r1 r2 r3 r4
            have HL2 := Lib.hid hletter
            clear hletter
            obtain ⟨X, hletter⟩ : ∃ y, exBD D l = y := ⟨_, rfl⟩
            simp only [hletter] at r1 r2 r3 r4
            have HX := Lib.hid hletter
            clear hletter
            obtain ⟨R, hletter⟩ : ∃ y, exBR D l = y := ⟨_, rfl⟩
            simp only [hletter] at r1 r2 r3 r4
            have HR := Lib.hid hletter
            clear hletter
            obtain ⟨R2, hletter⟩ : ∃ y, exBR D L2 = y := ⟨_, rfl⟩
            simp only [hletter] at r1 r2 r3 r4
            have HR2 := Lib.hid hletter
            clear hletter
            have H1 := Lib.hid r1
            rw [HLL.out] at r2 r3
            have H2 := Lib.hid r2
            have H3 := Lib.hid r3
            have H4 := Lib.hid r4
            have H5 := Lib.hid ((isOrd_iff _ _).1 hord)
            obtain ⟨nL, hnL⟩ : ∃ n, L2.length = n := ⟨_, rfl⟩
            have HNL := Lib.hid hnL
            clear hnL r1 r2 r3 r4 hd hv hord
            go_wp2_with fail
            have q := implExecuteBatch_any _ _ _ _ _ _ _ _ (D) (l) _ (od.sees) (ol.sees) (by omega) (by omega)
            rw [HX.out, HR.out] at q
            refine q.mono ?_
            clear q
            rintro e w8 ⟨Ax, nx, cx, Bx, kx, ex, lx, mx, lox, hix, Lx, Hx, vsx, rfl, st⟩
            have b8 := st.bel
            have n_x := Lib.hid st.len
            have s8 := b8.size
            replace ol := ol.below b8
            replace oo := oo.below b8
            replace od := od.below b8
            replace hB := below_later hB b8 (Nat.le_refl _)
            clear b8
            have sx := st.sp
            clear st
            have up_x := sx.up
            have hkx : nl = kx := by rw [← n_x.out.2]; exact H3.out.symm
            subst hkx
            go_wp2_with fail
            have q := implApplyOrder_any _ _ _ _ _ _ _ _ (l) (o) _ (ol.sees) (oo.sees) (by omega) (by omega)
            rw [HL2.out, HNL.out] at q
            refine q.mono ?_
            clear q
            rintro e w9 ⟨Aa, ca, rfl, oa, b9⟩
            have s9 := b9.size
            replace sx := sx.below b9
            replace ol := ol.below b9
            replace oo := oo.below b9
            replace od := od.below b9
            replace hB := below_later hB b9 (Nat.le_refl _)
            clear b9
            go_wp2_with fail
            have q := implExecuteBatch_any _ _ _ _ _ _ _ _ (D) (L2) _ (od.sees) (oa.sees) (by omega) (by omega)
            rw [H1.out, HR2.out] at q
            refine q.mono ?_
            clear q
            rintro e w10 ⟨Ay, ny, cy, By, ky, ey, ly, my, loy, hiy, Ly, Hy, vsy, rfl, st⟩
            have b10 := st.bel
            have n_y := Lib.hid st.len
            have s10 := b10.size
            replace sx := sx.below b10
            replace ol := ol.below b10
            replace oo := oo.below b10
            replace od := od.below b10
            replace oa := oa.below b10
            replace hB := below_later hB b10 (Nat.le_refl _)
            clear b10
            have sy := st.sp
            clear st
            have up_y := sy.up
            have hky : nl = ky := by rw [← n_y.out.2]; exact H2.out.symm
            subst hky
            go_wp2_with fail
            refine (sameInts_t _ _ _ _ _ _ _ _ _ _ sx.seeD sy.seeD).mono ?_
            rintro e w11 ⟨rfl, b11⟩
            have s11 := b11.size
            replace sx := sx.below b11
            replace sy := sy.below b11
            replace ol := ol.below b11
            replace oo := oo.below b11
            replace od := od.below b11
            replace oa := oa.below b11
            replace hB := below_later hB b11 (Nat.le_refl _)
            clear b11
            have vx := sx.see
            have vy := sy.see
            have ux := sx.seeO
            have uy := sy.seeO
            have up1 := sx.up
            have up2 := sy.up
            go_upto_region 17 with fail
            go_loopw [13] (fun i wr => ∃ (k : Nat), k ≤ nl ∧ i = .int .i64 k ∧ Below w11.heap.size w11 wr) (fun i _ => nl - (intOf i).toNat)
            case atStart => exact ⟨0, Nat.zero_le _, rfl, Below.refl _ _⟩
            case round =>
              obtain ⟨k, hk, rfl, bX⟩ := hrel
              have sX := bX.size
              by_cases hlt : k < nl
              · have hko : k < o.length := by rw [HOL.out]; exact hlt
                obtain ⟨j, hj1, hj2, hj3⟩ := H4.out k hko
                rw [HLL.out] at hj2
                have hkR : k < R2.length := by rw [H2.out]; exact hlt
                have hjR : j < R.length := by rw [H3.out]; exact hj2
                rw [List.getElem?_eq_getElem hkR, List.getElem?_eq_getElem hjR] at hj3
                injection hj3 with hj3
                obtain ⟨A5, n5, c5, hv5, hs5⟩ := (vy.below bX (by omega)).2 k _ (List.getElem?_eq_getElem hkR)
                obtain ⟨A6, n6, c6, hv6, hs6⟩ := (vx.below bX (by omega)).2 j _ (List.getElem?_eq_getElem hjR)
                rw [hj3] at hs5
                obtain ⟨by_, zy, hAy, hbyB, hcy⟩ := (uy.below bX (by omega)).at_ (by omega)
                cases hAy
                obtain ⟨bx_, zx, hAx, hbxB, hcx⟩ := (ux.below bX (by omega)).at_ (by omega)
                cases hAx
                obtain ⟨bo, zo, hAo, hboB, hco⟩ := (oo.sees.below bX (by omega)).int_at (by omega)
                cases hAo
                have hy := hcy k _ hv5
                have hx := hcx j _ hv6
                have ho := hco k hko
                rw [hj1] at ho
                clear hcy hcx hco hv5 hv6 hj1 hj3
                generalize R[j] = row at *
                have i1 : (0 : Int) ≤ (k : Int) := by omega
                have i2 : (k : Int) < (nl : Int) := by omega
                have i3 : (0 : Int) ≤ (j : Int) := by omega
                have i4 : (j : Int) < (nl : Int) := by omega
                have g1 : by_ < wr.heap.size := by omega
                have g2 : bx_ < wr.heap.size := by omega
                have g3 : bo < wr.heap.size := by omega
                have HC := Lib.hid (fun q => sameInts_t _ _ _ _ _ _ _ _ row (wr.drewN q) (hs5.drewN q) (hs6.drewN q))
                clear hs5 hs6
                go_wp2_with fail
                go_region_held3 (fun w' => w'.cell? ⟨by_, zy + k, none⟩ = some (.slice A5 n5 c5) ∧ w'.cell? ⟨bo, zo + k, none⟩ = some (.int .i64 (j : Int)) ∧ w'.cell? ⟨bx_, zx + j, none⟩ = some (.slice A6 n6 c6)) (first | (refine ⟨?_, ?_, ?_⟩ <;> assumption) | go_keep) (first | (go_at_call 29; refine (HC.out 1).mono ?_; rintro e w1 ⟨rfl, b1⟩; have hB1 := below_later (below_drewN bX 1) b1 (by show w11.heap.size ≤ w11.heap.size; omega); have j0 := (b1.cell (p := ⟨by_, zy + k, none⟩) g1).trans hy; have j1 := (b1.cell (p := ⟨bo, zo + k, none⟩) g3).trans ho; have j2 := (b1.cell (p := ⟨bx_, zx + j, none⟩) g2).trans hx))
                go_wp2_with fail
                go_roundw
                case rel => exact ⟨k + 1, by omega, by go_num, hB1⟩
                case measure => simp [intOf]; omega
              · replace hB := below_later hB bX (Nat.le_refl _)
                go_wp2_with fail
                go_ret
                exact ⟨rfl, hB⟩
end Go.Proofs.Ythnebfcclkebeaa
