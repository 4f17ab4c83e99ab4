/-
  Walk: the law FnExecuteBatch returns true.
-/
import Derived.Deep.DeepCutAuto
import Derived.IntWalk
import Derived.Test.YthnebfcclkebeaaM17
import Derived.Test.YthnebfcclkebeaaM14
import Derived.Test.YthnebfcclkebeaaM16
import Derived.Test.YthnebfcclkebeaaA
namespace Go.Proofs.Ythnebfcclkebeaa
open Go.RowKit
set_option linter.unusedSimpArgs false
set_option linter.unusedVariables false
set_option maxHeartbeats 4000000 in
theorem law_FnExecuteBatch (w : World) (A : Option Addr) (n c : Nat) (bs : List Int) (h : Sees w w.heap.size 1 A n c (byts bs)) (hb : ∀ v ∈ bs, 0 ≤ v ∧ v ≤ 255) :
    Calls Try.prog 14 #[.slice A n c] w (RetPure w (.bool true)) := by
  have hc1 := h.cap
  have hc2 := h.big
  by_cases hn1 : 1048576 < n
  · go_enter Try.func14, Try.ntmps14
    go_wp2_with fail
    go_ret
    exact ⟨rfl, Below.refl _ _⟩
  have hB : Below w.heap.size w w := Below.refl _ _
  go_enter Try.func14, Try.ntmps14
  go_wp2_with fail
  refine (drawExecuteBatch_any _ _ _ _ _ _ h (Nat.le_refl _) hb).mono ?_
  rintro e w2 ⟨Ad, nd, cd, d, Al, nl, cl, l, rfl, ⟨od, hnd⟩, ⟨ol, hnl⟩, b2⟩
  have s2 := b2.size
  replace hB := below_later hB b2 (Nat.le_refl _)
  clear b2
  clear h hb
  have hdc := od.cap
  have hlc := ol.cap
  have hll := ol.sees.cmd
  have hdl := od.sees.int
  obtain ⟨i0, hi0, hz0, hz1, hz2⟩ := info_parts row_info
  have HDL := Lib.hid hdl
  have HLL := Lib.hid hll
  clear hdl hll
  cases hd : dval d
  · have HX := Lib.hid (exBD_no (d := d) (l := l) (by rw [hd]; rfl))
    have HR := Lib.hid (exBR_no (d := d) (l := l) (by rw [hd]; rfl))
    have HD := Lib.hid hd
    clear hd
    go_wp2_with fail
    have q := implExecuteBatch_any _ _ _ _ _ _ _ _ (d) (l) _ (od.sees) (ol.sees) (by omega) (by omega)
    rw [HX.out, HR.out] at q
    refine q.mono ?_
    clear q
    rintro e w3 ⟨Ax, nx, cx, Bx, kx, ex, lx, mx, lox, hix, Lx, Hx, vsx, rfl, st⟩
    have b3 := st.bel
    have n_x := Lib.hid st.len
    have s3 := b3.size
    replace od := od.below b3
    replace ol := ol.below b3
    replace hB := below_later hB b3 (Nat.le_refl _)
    clear b3
    have sx := st.sp
    clear st
    have up_x := sx.up
    go_wp2_with fail
    have q := specExecuteBatch_any _ _ _ _ _ _ _ _ (d) (l) _ (od.sees) (ol.sees) (by omega) (by omega)
    rw [HX.out, HR.out] at q
    refine q.mono ?_
    clear q
    rintro e w4 ⟨Ay, ny, cy, By, ky, ey, ly, my, loy, hiy, Ly, Hy, vsy, rfl, st⟩
    have b4 := st.bel
    have n_y := Lib.hid st.len
    have s4 := b4.size
    replace sx := sx.below b4
    replace od := od.below b4
    replace ol := ol.below b4
    replace hB := below_later hB b4 (Nat.le_refl _)
    clear b4
    have sy := st.sp
    clear st
    have up_y := sy.up
    go_wp2_with fail
    refine (sameInts_t _ _ _ _ _ _ _ _ _ _ sx.seeD sy.seeD).mono ?_
    rintro e w5 ⟨rfl, b5⟩
    have s5 := b5.size
    replace sx := sx.below b5
    replace sy := sy.below b5
    replace od := od.below b5
    replace ol := ol.below b5
    replace hB := below_later hB b5 (Nat.le_refl _)
    clear b5
    go_wp2_with fail
    refine (sameRows_t _ _ _ _ _ _ _ _ _ _ _ _ sx.seeO sx.see sy.seeO sy.see sx.up sy.up).mono ?_
    rintro e w6 ⟨rfl, b6⟩
    have s6 := b6.size
    replace sx := sx.below b6
    replace sy := sy.below b6
    replace od := od.below b6
    replace ol := ol.below b6
    replace hB := below_later hB b6 (Nat.le_refl _)
    clear b6
    obtain ⟨n1, n2⟩ := n_x.out
    clear n_x
    simp only [List.length_nil] at n1 n2
    subst n1 n2
    go_wp2_with fail
    have q := specDiskValid_any _ _ _ _ d _ od.sees
    rw [HD.out] at q
    refine q.mono ?_
    clear q
    rintro e w' ⟨rfl, rfl⟩
    go_wp2_with fail
    refine (alive_any _).mono ?_
    rintro e w7 ⟨rfl, b7⟩
    have s7 := b7.size
    replace sx := sx.below b7
    replace sy := sy.below b7
    replace od := od.below b7
    replace ol := ol.below b7
    replace hB := below_later hB b7 (Nat.le_refl _)
    clear b7
    go_wp2_with fail
    go_ret
    exact ⟨rfl, hB⟩
  · cases hv : bval l (nd : Int)
    · replace hv : bval l d.length = false := by rw [HDL.out]; exact hv
      have HX := Lib.hid (exBD_no (d := d) (l := l) (by rw [hv, Bool.and_false]))
      have HR := Lib.hid (exBR_no (d := d) (l := l) (by rw [hv, Bool.and_false]))
      have HD := Lib.hid hd
      rw [HDL.out] at hv
      have HV := Lib.hid hv
      clear hd hv
      go_wp2_with fail
      have q := implExecuteBatch_any _ _ _ _ _ _ _ _ (d) (l) _ (od.sees) (ol.sees) (by omega) (by omega)
      rw [HX.out, HR.out] at q
      refine q.mono ?_
      clear q
      rintro e w3 ⟨Ax, nx, cx, Bx, kx, ex, lx, mx, lox, hix, Lx, Hx, vsx, rfl, st⟩
      have b3 := st.bel
      have n_x := Lib.hid st.len
      have s3 := b3.size
      replace od := od.below b3
      replace ol := ol.below b3
      replace hB := below_later hB b3 (Nat.le_refl _)
      clear b3
      have sx := st.sp
      clear st
      have up_x := sx.up
      go_wp2_with fail
      have q := specExecuteBatch_any _ _ _ _ _ _ _ _ (d) (l) _ (od.sees) (ol.sees) (by omega) (by omega)
      rw [HX.out, HR.out] at q
      refine q.mono ?_
      clear q
      rintro e w4 ⟨Ay, ny, cy, By, ky, ey, ly, my, loy, hiy, Ly, Hy, vsy, rfl, st⟩
      have b4 := st.bel
      have n_y := Lib.hid st.len
      have s4 := b4.size
      replace sx := sx.below b4
      replace od := od.below b4
      replace ol := ol.below b4
      replace hB := below_later hB b4 (Nat.le_refl _)
      clear b4
      have sy := st.sp
      clear st
      have up_y := sy.up
      go_wp2_with fail
      refine (sameInts_t _ _ _ _ _ _ _ _ _ _ sx.seeD sy.seeD).mono ?_
      rintro e w5 ⟨rfl, b5⟩
      have s5 := b5.size
      replace sx := sx.below b5
      replace sy := sy.below b5
      replace od := od.below b5
      replace ol := ol.below b5
      replace hB := below_later hB b5 (Nat.le_refl _)
      clear b5
      go_wp2_with fail
      refine (sameRows_t _ _ _ _ _ _ _ _ _ _ _ _ sx.seeO sx.see sy.seeO sy.see sx.up sy.up).mono ?_
      rintro e w6 ⟨rfl, b6⟩
      have s6 := b6.size
      replace sx := sx.below b6
      replace sy := sy.below b6
      replace od := od.below b6
      replace ol := ol.below b6
      replace hB := below_later hB b6 (Nat.le_refl _)
      clear b6
      obtain ⟨n1, n2⟩ := n_x.out
      clear n_x
      simp only [List.length_nil] at n1 n2
      subst n1 n2
      go_wp2_with fail
      have q := specDiskValid_any _ _ _ _ d _ od.sees
      rw [HD.out] at q
      refine q.mono ?_
      clear q
      rintro e w' ⟨rfl, rfl⟩
      go_wp2_with fail
      have q := specBatchValid_any _ _ _ _ l (nd : Int) _ ol.sees (by omega) (by omega)
      rw [HV.out] at q
      refine q.mono ?_
      clear q
      rintro e w7 ⟨rfl, b7⟩
      have s7 := b7.size
      replace sx := sx.below b7
      replace sy := sy.below b7
      replace od := od.below b7
      replace ol := ol.below b7
      replace hB := below_later hB b7 (Nat.le_refl _)
      clear b7
      go_wp2_with fail
      refine (alive_any _).mono ?_
      rintro e w8 ⟨rfl, b8⟩
      have s8 := b8.size
      replace sx := sx.below b8
      replace sy := sy.below b8
      replace od := od.below b8
      replace ol := ol.below b8
      replace hB := below_later hB b8 (Nat.le_refl _)
      clear b8
      go_wp2_with fail
      go_ret
      exact ⟨rfl, hB⟩
    · have hv2 : bval l d.length = true := by rw [HDL.out]; exact hv
      obtain ⟨hs1, hs2⟩ := exB_split d l (nl / 2) hd hv2
      have hX64 := exBD_64 d l
      have hR12 := (exBR_tot d l).2
      have hM64 := exBD_64 d (l.take (nl / 2))
      have hE1 := (exBR_tot d (l.take (nl / 2))).2
      have hE2 := (exBR_tot (exBD d (l.take (nl / 2))) (l.drop (nl / 2))).2
      have HD := Lib.hid hd
      have HV := Lib.hid hv
      clear hd hv hv2
      obtain ⟨M, hletter⟩ : ∃ y, exBD d (l.take (nl / 2)) = y := ⟨_, rfl⟩
      simp only [hletter] at hs1 hs2 hM64 hE1 hE2
      have HM := Lib.hid hletter
      clear hletter
      obtain ⟨R1, hletter⟩ : ∃ y, exBR d (l.take (nl / 2)) = y := ⟨_, rfl⟩
      simp only [hletter] at hs1 hs2 hM64 hE1 hE2
      have HR1 := Lib.hid hletter
      clear hletter
      obtain ⟨X, hletter⟩ : ∃ y, exBD d l = y := ⟨_, rfl⟩
      simp only [hletter] at hs1 hs2 hX64 hR12
      have HX := Lib.hid hletter
      clear hletter
      obtain ⟨R, hletter⟩ : ∃ y, exBR d l = y := ⟨_, rfl⟩
      simp only [hletter] at hs1 hs2 hX64 hR12
      have HR := Lib.hid hletter
      clear hletter
      obtain ⟨R2, hletter⟩ : ∃ y, exBR M (l.drop (nl / 2)) = y := ⟨_, rfl⟩
      simp only [hletter] at hs2 hE2
      have HR2 := Lib.hid hletter
      clear hletter
      have HS1 := Lib.hid hs1
      have HS2 := Lib.hid hs2
      clear hs1 hs2
      go_wp2_with fail
      have q := implExecuteBatch_any _ _ _ _ _ _ _ _ (d) (l) _ (od.sees) (ol.sees) (by omega) (by omega)
      rw [HX.out, HR.out] at q
      refine q.mono ?_
      clear q
      rintro e w3 ⟨Ax, nx, cx, Bx, kx, ex, lx, mx, lox, hix, Lx, Hx, vsx, rfl, st⟩
      have b3 := st.bel
      have n_x := Lib.hid st.len
      have s3 := b3.size
      replace od := od.below b3
      replace ol := ol.below b3
      replace hB := below_later hB b3 (Nat.le_refl _)
      clear b3
      have sx := st.sp
      clear st
      have up_x := sx.up
      go_wp2_with fail
      have q := specExecuteBatch_any _ _ _ _ _ _ _ _ (d) (l) _ (od.sees) (ol.sees) (by omega) (by omega)
      rw [HX.out, HR.out] at q
      refine q.mono ?_
      clear q
      rintro e w4 ⟨Ay, ny, cy, By, ky, ey, ly, my, loy, hiy, Ly, Hy, vsy, rfl, st⟩
      have b4 := st.bel
      have n_y := Lib.hid st.len
      have s4 := b4.size
      replace sx := sx.below b4
      replace od := od.below b4
      replace ol := ol.below b4
      replace hB := below_later hB b4 (Nat.le_refl _)
      clear b4
      have sy := st.sp
      clear st
      have up_y := sy.up
      go_wp2_with fail
      refine (sameInts_t _ _ _ _ _ _ _ _ _ _ sx.seeD sy.seeD).mono ?_
      rintro e w5 ⟨rfl, b5⟩
      have s5 := b5.size
      replace sx := sx.below b5
      replace sy := sy.below b5
      replace od := od.below b5
      replace ol := ol.below b5
      replace hB := below_later hB b5 (Nat.le_refl _)
      clear b5
      go_wp2_with fail
      refine (sameRows_t _ _ _ _ _ _ _ _ _ _ _ _ sx.seeO sx.see sy.seeO sy.see sx.up sy.up).mono ?_
      rintro e w6 ⟨rfl, b6⟩
      have s6 := b6.size
      replace sx := sx.below b6
      replace sy := sy.below b6
      replace od := od.below b6
      replace ol := ol.below b6
      replace hB := below_later hB b6 (Nat.le_refl _)
      clear b6
      go_wp2_with fail
      have q := specDiskValid_any _ _ _ _ d _ od.sees
      rw [HD.out] at q
      refine q.mono ?_
      clear q
      rintro e w' ⟨rfl, rfl⟩
      go_wp2_with fail
      have q := specBatchValid_any _ _ _ _ l (nd : Int) _ ol.sees (by omega) (by omega)
      rw [HV.out] at q
      refine q.mono ?_
      clear q
      rintro e w7 ⟨rfl, b7⟩
      have s7 := b7.size
      replace sx := sx.below b7
      replace sy := sy.below b7
      replace od := od.below b7
      replace ol := ol.below b7
      replace hB := below_later hB b7 (Nat.le_refl _)
      clear b7
      go_wp2_with fail
      have q := implExecuteBatch_any _ _ _ _ _ _ _ _ (d) (l.take (nl / 2)) _ (od.sees) (ol.sees.cmdPre (nl / 2) (by omega)) (by omega) (by omega)
      rw [HM.out, HR1.out] at q
      refine q.mono ?_
      clear q
      rintro e w8 ⟨Au, nu, cu, Bu, ku, eu, lu, mu, lou, hiu, Lu, Hu, vsu, rfl, st⟩
      have b8 := st.bel
      have n_u := Lib.hid st.len
      have s8 := b8.size
      replace sx := sx.below b8
      replace sy := sy.below b8
      replace od := od.below b8
      replace ol := ol.below b8
      replace hB := below_later hB b8 (Nat.le_refl _)
      clear b8
      have su := st.sp
      clear st
      have up_u := su.up
      by_cases hck : cl = nl / 2
      · subst hck
        have y1 : Sees w8 w8.heap.size 4 Al 0 0 (cmdC (l.drop (nl / 2))) := by rw [show l.drop (nl / 2) = [] from List.drop_eq_nil_of_le (by rw [HLL.out]; omega)]; exact Sees.none_ _ _ _ _ (by omega) _
        go_wp2_with fail
        have q := implExecuteBatch_any _ _ _ _ _ _ _ _ M (l.drop (nl / 2)) _ su.seeD y1 (by omega) (by omega)
        rw [HS1.out, HR2.out] at q
        refine q.mono ?_
        clear q
        rintro e w9 ⟨Av, nv, cv, Bv, kv, ev, lv, mv, lov, hiv, Lv, Hv, vsv, rfl, st⟩
        have b9 := st.bel
        have n_v := Lib.hid st.len
        have s9 := b9.size
        replace sx := sx.below b9
        replace sy := sy.below b9
        replace su := su.below b9
        replace od := od.below b9
        replace ol := ol.below b9
        replace hB := below_later hB b9 (Nat.le_refl _)
        clear b9
        have sv := st.sp
        clear st
        have up_v := sv.up
        go_wp2_with fail
        refine (sameInts_t _ _ _ _ _ _ _ _ _ _ sv.seeD sx.seeD).mono ?_
        rintro e w10 ⟨rfl, b10⟩
        have s10 := b10.size
        replace sx := sx.below b10
        replace sy := sy.below b10
        replace su := su.below b10
        replace sv := sv.below b10
        replace od := od.below b10
        replace ol := ol.below b10
        replace hB := below_later hB b10 (Nat.le_refl _)
        clear b10
        have e0 := newEmpty w10 22 1
        have bn := below_new w10 (.cells #[] 22)
        have L0 := su.seeO.below bn (by omega)
        have zA : (w10.alloc (.cells #[] 22)).heap.size = w10.heap.size + 1 := World.size_alloc _ _
        have B0 := below_later hB bn (Nat.le_refl _)
        have sB := hB.size
        obtain ⟨lu1, lu2⟩ := n_u.out
        obtain ⟨lv1, lv2⟩ := n_v.out
        have ru := su.see.below bn (by omega)
        have rv := sv.see.below bn (by omega)
        have rx := sx.see.below bn (by omega)
        have ov := sv.seeO.below bn (by omega)
        have ox := sx.seeO.below bn (by omega)
        have one1 := ru.one
        have one2 := rv.one
        go_wp2_with (first
          | (at_builtin; refine wpList_app _ rfl (.tmp 88) (.tmp 89) _ rfl 22 i0 (.slice none 0 0) 1 24 Try.underlying25 hi0 hz0 hz1 hz2 rfl (by decide) w10.heap.size (w10.heap.size + 1) _ 0 0 [] rfl e0 _ _ _ _ _ rfl L0 one1 (by omega) (by omega) (by omega) ?_; intro A22 c22 w22 o2 f2; simp only [Nat.zero_add, List.nil_append] at o2; have s22 := f2.size; have B2 := f2.below B0 (by omega) (Nat.le_refl _); replace ru := ru.frs f2 (by omega) (by omega); replace rv := rv.frs f2 (by omega) (by omega); replace rx := rx.frs f2 (by omega) (by omega); replace ov := ov.fr f2 (by omega) (by omega); replace ox := ox.fr f2 (by omega) (by omega))
          | (at_builtin; refine wpList_app _ rfl (.tmp 90) (.tmp 91) _ rfl 22 i0 (.slice none 0 0) 1 24 Try.underlying25 hi0 hz0 hz1 hz2 rfl (by decide) _ _ _ _ _ _ rfl o2 _ _ _ _ _ rfl ov one2 (by omega) (by omega) (by omega) ?_; intro A24 c24 w24 o4 f4; have s24 := f4.size; have B4 := f4.below B2 (by omega) (Nat.le_refl _); replace ru := ru.frs f4 (by omega) (by omega); replace rv := rv.frs f4 (by omega) (by omega); replace rx := rx.frs f4 (by omega) (by omega); replace ov := ov.fr f4 (by omega) (by omega); replace ox := ox.fr f4 (by omega) (by omega)))
        have rr := (ru.more (B' := w24.heap.size) (by omega)).append (rv.more (by omega))
        rw [HS2.out] at rr
        refine (sameRows_t _ _ _ _ _ _ _ _ _ _ _ _ o4.sees rr ox rx (by omega) (by omega)).mono ?_
        rintro e w25 ⟨rfl, b25⟩
        replace hB := below_later B4 b25 (Nat.le_refl _)
        go_wp2_with fail
        go_ret
        exact ⟨rfl, hB⟩
      · have y1 := ol.sees.cmdTail (nl / 2) (by omega) _ (fun _ => rfl)
        go_wp2_with fail
        have q := implExecuteBatch_any _ _ _ _ _ _ _ _ M (l.drop (nl / 2)) _ su.seeD y1 (by omega) (by omega)
        rw [HS1.out, HR2.out] at q
        refine q.mono ?_
        clear q
        rintro e w9 ⟨Av, nv, cv, Bv, kv, ev, lv, mv, lov, hiv, Lv, Hv, vsv, rfl, st⟩
        have b9 := st.bel
        have n_v := Lib.hid st.len
        have s9 := b9.size
        replace sx := sx.below b9
        replace sy := sy.below b9
        replace su := su.below b9
        replace od := od.below b9
        replace ol := ol.below b9
        replace hB := below_later hB b9 (Nat.le_refl _)
        clear b9
        have sv := st.sp
        clear st
        have up_v := sv.up
        go_wp2_with fail
        refine (sameInts_t _ _ _ _ _ _ _ _ _ _ sv.seeD sx.seeD).mono ?_
        rintro e w10 ⟨rfl, b10⟩
        have s10 := b10.size
        replace sx := sx.below b10
        replace sy := sy.below b10
        replace su := su.below b10
        replace sv := sv.below b10
        replace od := od.below b10
        replace ol := ol.below b10
        replace hB := below_later hB b10 (Nat.le_refl _)
        clear b10
        have e0 := newEmpty w10 22 1
        have bn := below_new w10 (.cells #[] 22)
        have L0 := su.seeO.below bn (by omega)
        have zA : (w10.alloc (.cells #[] 22)).heap.size = w10.heap.size + 1 := World.size_alloc _ _
        have B0 := below_later hB bn (Nat.le_refl _)
        have sB := hB.size
        obtain ⟨lu1, lu2⟩ := n_u.out
        obtain ⟨lv1, lv2⟩ := n_v.out
        have ru := su.see.below bn (by omega)
        have rv := sv.see.below bn (by omega)
        have rx := sx.see.below bn (by omega)
        have ov := sv.seeO.below bn (by omega)
        have ox := sx.seeO.below bn (by omega)
        have one1 := ru.one
        have one2 := rv.one
        go_wp2_with (first
          | (at_builtin; refine wpList_app _ rfl (.tmp 88) (.tmp 89) _ rfl 22 i0 (.slice none 0 0) 1 24 Try.underlying25 hi0 hz0 hz1 hz2 rfl (by decide) w10.heap.size (w10.heap.size + 1) _ 0 0 [] rfl e0 _ _ _ _ _ rfl L0 one1 (by omega) (by omega) (by omega) ?_; intro A22 c22 w22 o2 f2; simp only [Nat.zero_add, List.nil_append] at o2; have s22 := f2.size; have B2 := f2.below B0 (by omega) (Nat.le_refl _); replace ru := ru.frs f2 (by omega) (by omega); replace rv := rv.frs f2 (by omega) (by omega); replace rx := rx.frs f2 (by omega) (by omega); replace ov := ov.fr f2 (by omega) (by omega); replace ox := ox.fr f2 (by omega) (by omega))
          | (at_builtin; refine wpList_app _ rfl (.tmp 90) (.tmp 91) _ rfl 22 i0 (.slice none 0 0) 1 24 Try.underlying25 hi0 hz0 hz1 hz2 rfl (by decide) _ _ _ _ _ _ rfl o2 _ _ _ _ _ rfl ov one2 (by omega) (by omega) (by omega) ?_; intro A24 c24 w24 o4 f4; have s24 := f4.size; have B4 := f4.below B2 (by omega) (Nat.le_refl _); replace ru := ru.frs f4 (by omega) (by omega); replace rv := rv.frs f4 (by omega) (by omega); replace rx := rx.frs f4 (by omega) (by omega); replace ov := ov.fr f4 (by omega) (by omega); replace ox := ox.fr f4 (by omega) (by omega)))
        have rr := (ru.more (B' := w24.heap.size) (by omega)).append (rv.more (by omega))
        rw [HS2.out] at rr
        refine (sameRows_t _ _ _ _ _ _ _ _ _ _ _ _ o4.sees rr ox rx (by omega) (by omega)).mono ?_
        rintro e w25 ⟨rfl, b25⟩
        replace hB := below_later B4 b25 (Nat.le_refl _)
        go_wp2_with fail
        go_ret
        exact ⟨rfl, hB⟩
end Go.Proofs.Ythnebfcclkebeaa
