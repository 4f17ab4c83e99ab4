/-
  Walk: the law FnReadyFirst returns true.
-/
import Derived.Deep.DeepCutAuto
import Derived.IntWalk
import Derived.Test.YthnebfcclkebeaaM8
import Derived.Test.YthnebfcclkebeaaS3
import Derived.Test.YthnebfcclkebeaaM16
import Derived.Test.YthnebfcclkebeaaPlainO
import Derived.Test.YthnebfcclkebeaaM14
import Derived.Test.YthnebfcclkebeaaA
namespace Go.Proofs.Ythnebfcclkebeaa
open Go.RowKit
set_option linter.unusedSimpArgs false
set_option linter.unusedVariables false
set_option maxHeartbeats 4000000 in
theorem law_FnReadyFirst (w : World) (A : Option Addr) (n c : Nat) (bs : List Int) (h : Sees w w.heap.size 1 A n c (byts bs)) (hb : ∀ v ∈ bs, 0 ≤ v ∧ v ≤ 255) (A' : Option Addr) (n' c' : Nat) (bs' : List Int) (h' : Sees w w.heap.size 1 A' n' c' (byts bs')) (hb' : ∀ v ∈ bs', 0 ≤ v ∧ v ≤ 255) :
    Calls Try.prog 4 #[.slice A n c, .slice A' n' c'] w (RetPure w (.bool true)) := by
  have hc1 := h.cap
  have hc2 := h.big
  have hc3 := h'.cap
  have hc4 := h'.big
  by_cases hn1 : 1048576 < n
  · go_enter Try.func4, Try.ntmps4
    go_wp2_with fail
    go_ret
    exact ⟨rfl, Below.refl _ _⟩
  by_cases hn2 : 1048576 < n'
  · go_enter Try.func4, Try.ntmps4
    go_wp2_with fail
    go_ret
    exact ⟨rfl, Below.refl _ _⟩
  have hB : Below w.heap.size w w := Below.refl _ _
  go_enter Try.func4, Try.ntmps4
  clear hb'
  clear h'
  go_wp2_with fail
  refine (drawExecuteBatch_any _ _ _ _ _ _ h (Nat.le_refl _) hb).mono ?_
  rintro e w3 ⟨Ad, nd, cd, d, Al, nl, cl, l, rfl, ⟨od, hnd⟩, ⟨ol, hnl⟩, b3⟩
  have s3 := b3.size
  replace hB := below_later hB b3 (Nat.le_refl _)
  clear b3
  clear h hb
  have hdc := od.cap
  have hlc := ol.cap
  have HDL := Lib.hid od.sees.int
  have HLL := Lib.hid ol.sees.cmd
  obtain ⟨i0, hi0, hz0, hz1, hz2⟩ := info_parts int_info
  obtain ⟨X, hletter⟩ : ∃ y, exBD d l = y := ⟨_, rfl⟩
  have HX := Lib.hid hletter
  clear hletter
  obtain ⟨R, hletter⟩ : ∃ y, exBR d l = y := ⟨_, rfl⟩
  have HR := Lib.hid hletter
  clear hletter
  obtain ⟨Y, hletter⟩ : ∃ y, readyL l = y := ⟨_, rfl⟩
  have HY := Lib.hid hletter
  clear hletter
  go_wp2_with fail
  have q := implExecuteBatch_any _ _ _ _ _ _ _ _ (d) (l) _ (od.sees) (ol.sees) (by omega) (by omega)
  rw [HX.out, HR.out] at q
  refine q.mono ?_
  clear q
  rintro e w4 ⟨Ax, nx, cx, Bx, kx, ex, lx, mx, lox, hix, Lx, Hx, vsx, rfl, st⟩
  have b4 := st.bel
  have n_x := Lib.hid st.len
  have s4 := b4.size
  replace od := od.below b4
  replace ol := ol.below b4
  replace hB := below_later hB b4 (Nat.le_refl _)
  clear b4
  have sx := st.sp
  clear st
  have up_x := sx.up
  go_wp2_with fail
  have q := specExecuteBatch_any _ _ _ _ _ _ _ _ (d) (l) _ (od.sees) (ol.sees) (by omega) (by omega)
  rw [HX.out, HR.out] at q
  refine q.mono ?_
  clear q
  rintro e w5 ⟨Ay, ny, cy, By, ky, ey, ly, my, loy, hiy, Ly, Hy, vsy, rfl, st⟩
  have b5 := st.bel
  have n_y := Lib.hid st.len
  have s5 := b5.size
  replace sx := sx.below b5
  replace od := od.below b5
  replace ol := ol.below b5
  replace hB := below_later hB b5 (Nat.le_refl _)
  clear b5
  have sy := st.sp
  clear st
  have up_y := sy.up
  go_wp2_with fail
  refine (sameInts_t _ _ _ _ _ _ _ _ _ _ sx.seeD sy.seeD).mono ?_
  rintro e w6 ⟨rfl, b6⟩
  have s6 := b6.size
  replace sx := sx.below b6
  replace sy := sy.below b6
  replace od := od.below b6
  replace ol := ol.below b6
  replace hB := below_later hB b6 (Nat.le_refl _)
  clear b6
  clear sy
  clear n_y up_y
  obtain ⟨nY, hnY⟩ : ∃ n, Y.length = n := ⟨_, rfl⟩
  have HNY := Lib.hid hnY
  clear hnY
  go_wp2_with fail
  have q := implReadyCommands_any _ _ _ _ l _ ol.sees (by omega)
  rw [HY.out, HNY.out] at q
  refine q.mono ?_
  clear q
  rintro e w7 ⟨Ag, cg, rfl, og, b7⟩
  have s7 := b7.size
  replace sx := sx.below b7
  replace od := od.below b7
  replace ol := ol.below b7
  replace hB := below_later hB b7 (Nat.le_refl _)
  clear b7
  have hyc := og.cap
  have hyb := og.big
  by_cases hx0 : nx = 0
  · subst hx0
    go_wp2_with fail
    refine (alive_any _).mono ?_
    rintro e w8 ⟨rfl, b8⟩
    have s8 := b8.size
    replace sx := sx.below b8
    replace od := od.below b8
    replace ol := ol.below b8
    replace og := og.below b8
    replace hB := below_later hB b8 (Nat.le_refl _)
    clear b8
    go_wp2_with fail
    go_ret
    exact ⟨rfl, hB⟩
  · by_cases hy0 : nY = 0
    · subst hy0
      go_wp2_with fail
      refine (alive_any _).mono ?_
      rintro e w8 ⟨rfl, b8⟩
      have s8 := b8.size
      replace sx := sx.below b8
      replace od := od.below b8
      replace ol := ol.below b8
      replace og := og.below b8
      replace hB := below_later hB b8 (Nat.le_refl _)
      clear b8
      go_wp2_with fail
      go_ret
      exact ⟨rfl, hB⟩
    · have dnx1 : decide (nx = 0) = false := decide_eq_false (by omega)
      have dnx2 : ((nx : Int) == 0) = false := beq_eq_false_iff_ne.2 (by omega)
      have dnx3 : decide ((nx : Int) = 0) = false := decide_eq_false (by omega)
      have dnY1 : decide (nY = 0) = false := decide_eq_false (by omega)
      have dnY2 : ((nY : Int) == 0) = false := beq_eq_false_iff_ne.2 (by omega)
      have dnY3 : decide ((nY : Int) = 0) = false := decide_eq_false (by omega)
      have hxl := n_x.out.1
      have hd : dval d = true := by cases hq : dval d with | true => rfl | false => (exfalso; have hh := HX.out; rw [exBD_no (by rw [hq]; rfl)] at hh; rw [← hh] at hxl; simp at hxl; omega)
      have hv : bval l d.length = true := by cases hq : bval l d.length with | true => rfl | false => (exfalso; have hh := HX.out; rw [exBD_no (by rw [hq, Bool.and_false])] at hh; rw [← hh] at hxl; simp at hxl; omega)
      have hb64 : bval l 64 = true := by cases hq : bval l 64 with | true => rfl | false => (exfalso; have hh := HY.out; rw [readyL_no hq] at hh; have h2 := HNY.out; rw [← hh] at h2; simp at h2; omega)
      have hYr : Y = readyTo l l.length := by rw [← HY.out]; exact readyL_of hb64
      have ht : n' % nY < nY := Nat.mod_lt _ (by omega)
      have htY : n' % nY < Y.length := by rw [HNY.out]; exact ht
      obtain ⟨f, hf1, hf2, hf3⟩ := (mem_readyTo l l.length Y[n' % nY]).1 (by rw [← hYr]; exact List.getElem_mem htY)
      obtain ⟨gb, gz, hgA, hgB, hcell⟩ := og.sees.int_at (by omega)
      subst hgA
      have hx := hcell _ htY
      rw [hf1] at hx
      clear hcell
      rw [HLL.out] at hf2
      have hl12 : nl ≤ 12 := by have := ((bval_iff _ _).1 hb64).1; rw [HLL.out] at this; exact this
      have HZ := Lib.hid (ready_run l f d (by rw [HLL.out]; exact hf2) hf3 hd hv)
      have hXX := HX.out
      rw [hXX, HLL.out] at HZ
      have m0 : ((n' : Int) % (nY : Int)) = ((n' % nY : Nat) : Int) := (Int.natCast_emod _ _).symm
      have m1 : (n' : Int).tmod (nY : Int) = ((n' % nY : Nat) : Int) := by rw [Int.tmod_eq_emod_of_nonneg (by omega)]; exact m0
      generalize n' % nY = t at *
      clear hd hv hb64 hYr htY hf1 hf3 hxl hXX m0
      have d71 : decide ((nl : Int) ≤ (f : Int)) = false := decide_eq_false (by omega)
      have d72 : decide (nl ≤ f) = false := decide_eq_false (by omega)
      have d73 : decide ((f : Int) < 0) = false := decide_eq_false (by omega)
      have g1 : (0 : Int) ≤ (f : Int) := by omega
      have g2 : (f : Int) < (nl : Int) := by omega
      have g3 : (t : Int) < (nY : Int) := by omega
      have g4 : (0 : Int) ≤ (t : Int) := by omega
      have e0 := newOne w7 3 (.int .i64 (f : Int))
      have z0 : (w7.alloc (.cells #[.int .i64 (f : Int)] 3)).heap.size = w7.heap.size + 1 := World.size_alloc _ _
      replace e0 := e0.wide (Nat.le_refl _) (show w7.heap.size + 1 ≤ (w7.alloc (.cells #[.int .i64 (f : Int)] 3)).heap.size by omega)
      have bn := below_new w7 (.cells #[.int .i64 (f : Int)] 3)
      have E0 := Lib.hid e0
      have BN := Lib.hid bn
      clear e0 bn
      go_upto_region 16 with fail
      go_loopw [13, 14] (fun t1 i wr => ∃ (k m : Nat) (A2 : Option Addr) (c2 : Nat), k ≤ nl ∧ i = .int .i64 k ∧ t1 = .slice A2 m c2 ∧ Hid ((others f k).length + 1 = m) ∧ Own wr w7.heap.size wr.heap.size 3 1 A2 m c2 (ints ((f : Int) :: others f k)) ∧ Below w7.heap.size w7 wr) (fun _ i _ => nl - (intOf i).toNat)
      case atStart => exact ⟨0, 1, _, _, Nat.zero_le _, rfl, rfl, Lib.hid rfl, E0.out, BN.out⟩
      case round =>
        clear E0 BN hx m1 g3 g4
        obtain ⟨k, m, A2, c2, hk, rfl, rfl, HM, o2, bW⟩ := hrel
        have sW := bW.size
        replace sx := sx.below bW
        replace od := od.below bW
        replace ol := ol.below bW
        replace og := og.below bW
        replace hB := below_later hB bW (Nat.le_refl _)
        by_cases hlt : k < nl
        · have HM2 : m ≤ k + 1 := by have := HM.out; by_cases hfk : k ≤ f; (have := others_len_lt f k hfk; omega); (have := others_len f k (by omega); omega)
          by_cases hkf : k = f
          · have hkf2 : k = f := hkf
            have HO : Hid (others f (k + 1) = others f k) := Lib.hid (by rw [hkf2]; exact others_no f)
            have HM3 : Hid ((others f (k + 1)).length + 1 = m) := Lib.hid (by rw [HO.out]; exact HM.out)
            rw [← HO.out] at o2
            have dne : decide ((k : Int) ≠ (f : Int)) = false := decide_eq_false (by omega)
            clear hkf2
            go_wp2_with fail
            go_roundw
            case rel => exact ⟨k + 1, m, _, _, by omega, by go_num, rfl, HM3, o2, bW⟩
            case measure => simp [intOf]; omega
          · have HO := Lib.hid (others_yes f k hkf)
            have HM3 : Hid ((others f (k + 1)).length + 1 = m + 1) := Lib.hid (by rw [HO.out, List.length_append]; have := HM.out; simp; omega)
            have HI : Hid (ints ((f : Int) :: others f k) ++ [Value.int .i64 (k : Int)] = ints ((f : Int) :: others f (k + 1))) := Lib.hid (by rw [HO.out, ← List.cons_append, ints_app]; rfl)
            have p1 := o2.below (below_new wr (.cells #[.int .i64 (k : Int)] 3))
            have q1 := Sees.one wr 3 (.int .i64 (k : Int))
            have B1 := below_later bW (below_new wr (.cells #[.int .i64 (k : Int)] 3)) (Nat.le_refl _)
            have S1 := B1.size
            clear o2 HO
            generalize ints ((f : Int) :: others f k) = xs0 at *
            have dne : decide ((k : Int) ≠ (f : Int)) = true := decide_eq_true (by omega)
            go_wp2_with (at_builtin; refine wpList_app _ rfl (.tmp 84) (.tmp 86) _ rfl 3 i0 (.int .i64 0) 1 8 Try.underlying22 hi0 hz0 hz1 hz2 rfl (by decide) _ _ _ _ _ _ rfl p1 _ _ _ _ _ rfl q1 (one_int _) (by omega) (by omega) S1 ?_; intro A3 c3 w33 o3 f3; rw [HI.out] at o3; have B3 := f3.below B1 (Nat.le_refl _) (Nat.le_refl _))
            go_roundw
            case rel => exact ⟨k + 1, m + 1, _, _, by omega, by go_num, rfl, HM3, o3, B3⟩
            case measure => simp [intOf]; omega
        · have hk2 : k = nl := by omega
          subst hk2
          have HM4 : m ≤ 13 := by have := HM.out; have := others_len f k (by omega); omega
          have s2 := o2.sees
          obtain ⟨L2, hletter⟩ : ∃ y, applyO l ((f : Int) :: others f k) = y := ⟨_, rfl⟩
          have HL2 := Lib.hid hletter
          clear hletter
          obtain ⟨nL, hnL⟩ : ∃ n, L2.length = n := ⟨_, rfl⟩
          have HNL := Lib.hid hnL
          clear hnL
          rw [HL2.out] at HZ
          go_wp2_with fail
          have q := implApplyOrder_any _ _ _ _ _ _ _ _ (l) ((f : Int) :: others f k) _ (ol.sees) (s2) (by omega) (by omega)
          rw [HL2.out, HNL.out] at q
          refine q.mono ?_
          clear q
          rintro e w8 ⟨Aa, ca, rfl, oa, b8⟩
          have s8 := b8.size
          replace sx := sx.below b8
          replace od := od.below b8
          replace ol := ol.below b8
          replace og := og.below b8
          replace hB := below_later hB b8 (Nat.le_refl _)
          clear b8
          obtain ⟨R2, hletter⟩ : ∃ y, exBR d L2 = y := ⟨_, rfl⟩
          have HR2 := Lib.hid hletter
          clear hletter
          go_wp2_with fail
          have q := implExecuteBatch_any _ _ _ _ _ _ _ _ (d) (L2) _ (od.sees) (oa.sees) (by omega) (by omega)
          rw [HZ.out, HR2.out] at q
          refine q.mono ?_
          clear q
          rintro e w9 ⟨Az, nz, cz, Bz, kz, ez, lz, mz, loz, hiz, Lz, Hz, vsz, rfl, st⟩
          have b9 := st.bel
          have n_z := Lib.hid st.len
          have s9 := b9.size
          replace sx := sx.below b9
          replace od := od.below b9
          replace ol := ol.below b9
          replace og := og.below b9
          replace oa := oa.below b9
          replace hB := below_later hB b9 (Nat.le_refl _)
          clear b9
          have sz := st.sp
          clear st
          have up_z := sz.up
          go_wp2_with fail
          refine (sameInts_t _ _ _ _ _ _ _ _ _ _ sz.seeD sx.seeD).mono ?_
          rintro e w10 ⟨rfl, b10⟩
          have s10 := b10.size
          replace sx := sx.below b10
          replace sz := sz.below b10
          replace od := od.below b10
          replace ol := ol.below b10
          replace og := og.below b10
          replace oa := oa.below b10
          replace hB := below_later hB b10 (Nat.le_refl _)
          clear b10
          go_wp2_with fail
          go_ret
          exact ⟨rfl, hB⟩
end Go.Proofs.Ythnebfcclkebeaa
