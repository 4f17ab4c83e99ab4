/-
  Walk: the draw of orders (l20Order).
-/
import Derived.Test.YthnebfcclkebeaaM10
import Derived.Test.YthnebfcclkebeaaC8
import Derived.Test.YthnebfcclkebeaaDR
import Derived.Test.YthnebfcclkebeaaP3
import Derived.Test.YthnebfcclkebeaaD3
import Derived.Deep.DeepCutAuto
namespace Go.Proofs.Ythnebfcclkebeaa
open Go.RowKit
set_option linter.unusedSimpArgs false
set_option linter.unusedVariables false
/-- What l20Order leaves: some numbers in new memory; the reader some places further; nothing else has changed. -/
def RetOrd (w : World) (R p many : Nat) (en : Ending) (w' : World) : Prop :=
  ∃ A c o q, en = .returned (.slice A many c) ∧ Own w' w.heap.size w'.heap.size 3 1 A many c (ints o) ∧ (p ≤ q ∧ q ≤ p + 100) ∧ Rd w' R q ∧ Fr R (R + 1) w w'
set_option maxHeartbeats 20000000 in
theorem order_any (R p many : Nat) (m : Int) (w : World) (hr : Rd w R p) (hp : p ≤ 100000000000) (hs : many ≤ 20) (hm1 : -9223372036854775808 < m) (hm2 : m ≤ 9223372036854775807) :
    Calls Try.prog 66 #[.pointer (some ⟨R, 0, none⟩), .int .i64 many, .int .i64 m] w (RetOrd w R p many) := by
  have hRw := hr.lt
  have hF : Fr R (R + 1) w w := Fr.refl _ _ _
  obtain ⟨i0, hi0, hz0, hz1, hz2⟩ := info_parts int_info
  have hn1 := below_new w (.cells #[] 3)
  replace hr := hr.below hn1
  replace hF := fr_below hF hn1
  clear hn1
  have s1 : w.heap.size < (w.alloc (.cells #[] 3)).heap.size := Nat.lt_of_lt_of_eq (Nat.lt_succ_self _) (World.size_alloc _ _).symm
  have o2 := newEmpty w 3 1
  go_enter Try.func66, Try.ntmps66
  go_wp2_with fail
  generalize (w.alloc (.cells #[] 3)) = u1 at *
  refine (pick_any (R) (p) (2) _ hr (by omega)).mono ?_
  rintro e w2 ⟨k1, rfl, h2, q2, f2, e2⟩
  have s2 := f2.size
  clear hr
  have hr := q2
  clear q2
  replace o2 := o2.fr f2 (by omega)
  replace hF := hF.trans f2
  clear f2
  obtain ⟨k10, k11⟩ : 0 ≤ k1 ∧ k1 < 2 := by omega
  clear h2 e2
  obtain ⟨near, hnear⟩ : ∃ b : Bool, decide (k1 = 0) = b := ⟨_, rfl⟩
  have hnear2 : (k1 == 0) = near := by rw [← hnear]; rfl
  have hst := o2.wide (Nat.le_refl _) (show w.heap.size + 1 ≤ w2.heap.size by omega)
  rw [show ([] : List Value) = ints [] from rfl] at hst
  have HST := Lib.hid hst
  have HRD := Lib.hid hr
  have HFR := Lib.hid hF
  clear o2 hr hF hst
  go_upto_region 4 with fail
  clear hnear hnear2
  go_loopw [7, 9] (fun t i wr => ∃ (k : Nat) (A : Option Addr) (c : Nat) (o : List Int) (q : Nat), k ≤ many ∧ i = .int .i64 k ∧ t = .slice A k c ∧ Own wr w.heap.size wr.heap.size 3 1 A k c (ints o) ∧ (p ≤ q ∧ q ≤ p + 1 + 2 * k) ∧ Rd wr R q ∧ Fr R (R + 1) w wr) (fun _ i _ => many - (intOf i).toNat)
  case atStart => exact ⟨0, _, _, [], _, by omega, rfl, rfl, HST.out, by omega, HRD.out, HFR.out⟩
  case round =>
    clear HST HRD HFR
    obtain ⟨k, A, c, o, q, hk, rfl, rfl, o2, hq, hr, hF⟩ := hrel
    have hcap := o2.cap
    have hbig := o2.big
    have hol := o2.sees.int
    have sF := hF.size
    have HOL := Lib.hid hol
    clear hol
    by_cases hlt : k < many
    · have g1 : (0 : Int) ≤ (k : Int) := by omega
      have e1 : IntKind.i64.wrap ((k : Int) + 1) = (k : Int) + 1 := IntWalk.i64_in _ (by omega)
      cases near
      · go_wp2_with fail
        refine (pick_any (R) (q) ((k : Int) + 1) _ hr (by omega)).mono ?_
        rintro e w3 ⟨i1, rfl, h3, q3, f3, e3⟩
        have s3 := f3.size
        clear hr
        have hr := q3
        clear q3
        replace o2 := o2.fr f3 (by omega)
        replace hF := hF.trans f3
        clear f3
        obtain ⟨i10, i11⟩ : 0 ≤ i1 ∧ i1 < (k : Int) + 1 := by omega
        clear h3 e3
        obtain ⟨t, rfl⟩ := Int.eq_ofNat_of_zero_le i10
        have htk : t ≤ k := by omega
        by_cases hca : c = t
        · have htk2 : k = t := by omega
          subst htk2
          have hck2 : k = c := hca.symm
          subst hck2
          have x1 := (o2.sees.more (show wr.heap.size ≤ w3.heap.size by omega)).init (k) (by omega)
          have e0 := newEmpty w3 3 1
          have bn := below_new w3 (.cells #[] 3)
          skip
          replace x1 := x1.below bn (Nat.le_refl _)
          have zA : (w3.alloc (.cells #[] 3)).heap.size = w3.heap.size + 1 := World.size_alloc _ _
          replace hr := hr.below bn
          replace hF := fr_below hF bn
          clear bn o2
          go_wp2_with (first
            | (at_builtin; refine wpList_app _ rfl (.tmp 35) (.tmp 38) _ rfl 3 i0 (.int .i64 0) 1 8 Try.underlying22 hi0 hz0 hz1 hz2 rfl (by decide) w3.heap.size (w3.heap.size + 1) _ 0 0 [] rfl e0 _ _ _ _ _ rfl (Sees.none_ _ w3.heap.size 1 _ (by omega) _) (by intro u hu; cases hu) (by omega) (by omega) (by omega) ?_; intro A22 c22 w22 o3 f2; simp only [Nat.zero_add, List.nil_append] at o3; replace hr := hr.fr f2 (by omega); replace hF := fr_own hF f2 (by omega); have s_f2 := f2.size; replace x1 := x1.fr f2 (by omega) (by omega); have e1 := newEmpty w22 3 1; have b1 := below_new w22 (.cells #[] 3); have z1 : (w22.alloc (.cells #[] 3)).heap.size = w22.heap.size + 1 := World.size_alloc _ _; replace o3 := o3.below b1; replace x1 := x1.below b1 (by omega); replace hr := hr.below b1; replace hF := fr_below hF b1)
            | (at_builtin; refine wpList_app _ rfl (.tmp 40) (.tmp 43) _ rfl 3 i0 (.int .i64 0) 1 8 Try.underlying22 hi0 hz0 hz1 hz2 rfl (by decide) _ _ _ 0 0 [] rfl e1 _ _ _ _ _ rfl x1 (ints_one _) (by omega) (by omega) (by omega) ?_; intro A23 c23 w23 o4 f3; simp only [Nat.zero_add, List.nil_append] at o4; replace hr := hr.fr f3 (by omega); replace hF := fr_own hF f3 (by omega); have s_f3 := f3.size; replace o3 := o3.fr f3 (by omega); have b2 := below_new w23 (.cells #[.int .i64 (k : Int)] 3); have q2 := Sees.one w23 3 (.int .i64 (k : Int)); have z2 : (w23.alloc (.cells #[.int .i64 (k : Int)] 3)).heap.size = w23.heap.size + 1 := World.size_alloc _ _; replace o3 := o3.below b2; replace o4 := o4.below b2; replace hr := hr.below b2; replace hF := fr_below hF b2)
            | (at_builtin; refine wpList_app _ rfl (.tmp 44) (.tmp 46) _ rfl 3 i0 (.int .i64 0) 1 8 Try.underlying22 hi0 hz0 hz1 hz2 rfl (by decide) _ _ _ _ _ _ rfl o4 _ _ _ _ _ rfl q2 (one_int _) (by omega) (by omega) (by omega) ?_; intro A24 c24 w24 o5 f4; replace hr := hr.fr f4 (by omega); replace hF := fr_own hF f4 (by omega); have s_f4 := f4.size; replace o3 := o3.fr f4 (by omega))
            | (at_builtin; refine wpList_app _ rfl (.tmp 47) (.tmp 48) _ rfl 3 i0 (.int .i64 0) 1 8 Try.underlying22 hi0 hz0 hz1 hz2 rfl (by decide) _ _ _ _ _ _ rfl o5 _ _ _ _ _ rfl o3.sees (by intro u hu; cases hu) (by omega) (by omega) (by omega) ?_; intro A25 c25 w25 o6 f5; replace hr := hr.fr f5 (by omega); replace hF := fr_own hF f5 (by omega); have s_f5 := f5.size))
          simp only [Nat.add_zero, List.append_nil] at o6
          rw [show ints (o.take k) ++ [Value.int .i64 (k : Int)] = ints (o.take k ++ [(k : Int)]) by rw [ints_app]; rfl] at o6
          replace o6 := o6.wide (show w.heap.size ≤ _ by omega) (Nat.le_refl _)
          go_roundw
          case rel => exact ⟨k + 1, _, _, _, _, by omega, by go_num, rfl, o6, by omega, hr, hF⟩
          case measure => simp [intOf]; omega
        · have y1 := (o2.sees.more (show wr.heap.size ≤ w3.heap.size by omega)).tail (t) (by omega) _ (fun _ => rfl)
          have x1 := (o2.sees.more (show wr.heap.size ≤ w3.heap.size by omega)).init (t) (by omega)
          have e0 := newEmpty w3 3 1
          have bn := below_new w3 (.cells #[] 3)
          replace y1 := y1.below bn (Nat.le_refl _)
          replace x1 := x1.below bn (Nat.le_refl _)
          have zA : (w3.alloc (.cells #[] 3)).heap.size = w3.heap.size + 1 := World.size_alloc _ _
          replace hr := hr.below bn
          replace hF := fr_below hF bn
          clear bn o2
          go_wp2_with (first
            | (at_builtin; refine wpList_app _ rfl (.tmp 35) (.tmp 38) _ rfl 3 i0 (.int .i64 0) 1 8 Try.underlying22 hi0 hz0 hz1 hz2 rfl (by decide) w3.heap.size (w3.heap.size + 1) _ 0 0 [] rfl e0 _ _ _ _ _ rfl y1 (ints_one _) (by omega) (by omega) (by omega) ?_; intro A22 c22 w22 o3 f2; simp only [Nat.zero_add, List.nil_append] at o3; replace hr := hr.fr f2 (by omega); replace hF := fr_own hF f2 (by omega); have s_f2 := f2.size; replace x1 := x1.fr f2 (by omega) (by omega); have e1 := newEmpty w22 3 1; have b1 := below_new w22 (.cells #[] 3); have z1 : (w22.alloc (.cells #[] 3)).heap.size = w22.heap.size + 1 := World.size_alloc _ _; replace o3 := o3.below b1; replace x1 := x1.below b1 (by omega); replace hr := hr.below b1; replace hF := fr_below hF b1)
            | (at_builtin; refine wpList_app _ rfl (.tmp 40) (.tmp 43) _ rfl 3 i0 (.int .i64 0) 1 8 Try.underlying22 hi0 hz0 hz1 hz2 rfl (by decide) _ _ _ 0 0 [] rfl e1 _ _ _ _ _ rfl x1 (ints_one _) (by omega) (by omega) (by omega) ?_; intro A23 c23 w23 o4 f3; simp only [Nat.zero_add, List.nil_append] at o4; replace hr := hr.fr f3 (by omega); replace hF := fr_own hF f3 (by omega); have s_f3 := f3.size; replace o3 := o3.fr f3 (by omega); have b2 := below_new w23 (.cells #[.int .i64 (k : Int)] 3); have q2 := Sees.one w23 3 (.int .i64 (k : Int)); have z2 : (w23.alloc (.cells #[.int .i64 (k : Int)] 3)).heap.size = w23.heap.size + 1 := World.size_alloc _ _; replace o3 := o3.below b2; replace o4 := o4.below b2; replace hr := hr.below b2; replace hF := fr_below hF b2)
            | (at_builtin; refine wpList_app _ rfl (.tmp 44) (.tmp 46) _ rfl 3 i0 (.int .i64 0) 1 8 Try.underlying22 hi0 hz0 hz1 hz2 rfl (by decide) _ _ _ _ _ _ rfl o4 _ _ _ _ _ rfl q2 (one_int _) (by omega) (by omega) (by omega) ?_; intro A24 c24 w24 o5 f4; replace hr := hr.fr f4 (by omega); replace hF := fr_own hF f4 (by omega); have s_f4 := f4.size; replace o3 := o3.fr f4 (by omega))
            | (at_builtin; refine wpList_app _ rfl (.tmp 47) (.tmp 48) _ rfl 3 i0 (.int .i64 0) 1 8 Try.underlying22 hi0 hz0 hz1 hz2 rfl (by decide) _ _ _ _ _ _ rfl o5 _ _ _ _ _ rfl o3.sees (ints_one _) (by omega) (by omega) (by omega) ?_; intro A25 c25 w25 o6 f5; replace hr := hr.fr f5 (by omega); replace hF := fr_own hF f5 (by omega); have s_f5 := f5.size))
          have hlen : t + 1 + (k - t) = k + 1 := by omega
          rw [show (ints (o.take (t)) ++ [Value.int .i64 (k : Int)]) ++ ints (o.drop (t)) = ints ((o.take (t) ++ [(k : Int)]) ++ o.drop (t)) by rw [ints_app, ints_app]; rfl, hlen] at o6
          replace o6 := o6.wide (show w.heap.size ≤ _ by omega) (Nat.le_refl _)
          (try rw [hlen])
          go_roundw
          case rel => exact ⟨k + 1, _, _, _, _, by omega, by go_num, rfl, o6, by omega, hr, hF⟩
          case measure => simp [intOf]; omega
      · go_wp2_with fail
        refine (pick_any (R) (q) (3) _ hr (by omega)).mono ?_
        rintro e w3 ⟨k3, rfl, h3, q3, f3, e3⟩
        have s3 := f3.size
        clear hr
        have hr := q3
        clear q3
        replace o2 := o2.fr f3 (by omega)
        replace hF := hF.trans f3
        clear f3
        obtain ⟨k30, k31⟩ : 0 ≤ k3 ∧ k3 < 3 := by omega
        clear h3 e3
        by_cases hk3 : k3 = 0
        · subst hk3
          go_wp2_with fail
          refine (pick_any (R) ((q + 1)) ((k : Int) + 1) _ hr (by omega)).mono ?_
          rintro e w4 ⟨i1, rfl, h4, q4, f4, e4⟩
          have s4 := f4.size
          clear hr
          have hr := q4
          clear q4
          replace o2 := o2.fr f4 (by omega)
          replace hF := hF.trans f4
          clear f4
          obtain ⟨i10, i11⟩ : 0 ≤ i1 ∧ i1 < (k : Int) + 1 := by omega
          clear h4 e4
          obtain ⟨t, rfl⟩ := Int.eq_ofNat_of_zero_le i10
          have htk : t ≤ k := by omega
          by_cases hca : c = t
          · have htk2 : k = t := by omega
            subst htk2
            have hck2 : k = c := hca.symm
            subst hck2
            have x1 := (o2.sees.more (show wr.heap.size ≤ w4.heap.size by omega)).init (k) (by omega)
            have e0 := newEmpty w4 3 1
            have bn := below_new w4 (.cells #[] 3)
            skip
            replace x1 := x1.below bn (Nat.le_refl _)
            have zA : (w4.alloc (.cells #[] 3)).heap.size = w4.heap.size + 1 := World.size_alloc _ _
            replace hr := hr.below bn
            replace hF := fr_below hF bn
            clear bn o2
            go_wp2_with (first
              | (at_builtin; refine wpList_app _ rfl (.tmp 35) (.tmp 38) _ rfl 3 i0 (.int .i64 0) 1 8 Try.underlying22 hi0 hz0 hz1 hz2 rfl (by decide) w4.heap.size (w4.heap.size + 1) _ 0 0 [] rfl e0 _ _ _ _ _ rfl (Sees.none_ _ w4.heap.size 1 _ (by omega) _) (by intro u hu; cases hu) (by omega) (by omega) (by omega) ?_; intro A22 c22 w22 o3 f2; simp only [Nat.zero_add, List.nil_append] at o3; replace hr := hr.fr f2 (by omega); replace hF := fr_own hF f2 (by omega); have s_f2 := f2.size; replace x1 := x1.fr f2 (by omega) (by omega); have e1 := newEmpty w22 3 1; have b1 := below_new w22 (.cells #[] 3); have z1 : (w22.alloc (.cells #[] 3)).heap.size = w22.heap.size + 1 := World.size_alloc _ _; replace o3 := o3.below b1; replace x1 := x1.below b1 (by omega); replace hr := hr.below b1; replace hF := fr_below hF b1)
              | (at_builtin; refine wpList_app _ rfl (.tmp 40) (.tmp 43) _ rfl 3 i0 (.int .i64 0) 1 8 Try.underlying22 hi0 hz0 hz1 hz2 rfl (by decide) _ _ _ 0 0 [] rfl e1 _ _ _ _ _ rfl x1 (ints_one _) (by omega) (by omega) (by omega) ?_; intro A23 c23 w23 o4 f3; simp only [Nat.zero_add, List.nil_append] at o4; replace hr := hr.fr f3 (by omega); replace hF := fr_own hF f3 (by omega); have s_f3 := f3.size; replace o3 := o3.fr f3 (by omega); have b2 := below_new w23 (.cells #[.int .i64 (k : Int)] 3); have q2 := Sees.one w23 3 (.int .i64 (k : Int)); have z2 : (w23.alloc (.cells #[.int .i64 (k : Int)] 3)).heap.size = w23.heap.size + 1 := World.size_alloc _ _; replace o3 := o3.below b2; replace o4 := o4.below b2; replace hr := hr.below b2; replace hF := fr_below hF b2)
              | (at_builtin; refine wpList_app _ rfl (.tmp 44) (.tmp 46) _ rfl 3 i0 (.int .i64 0) 1 8 Try.underlying22 hi0 hz0 hz1 hz2 rfl (by decide) _ _ _ _ _ _ rfl o4 _ _ _ _ _ rfl q2 (one_int _) (by omega) (by omega) (by omega) ?_; intro A24 c24 w24 o5 f4; replace hr := hr.fr f4 (by omega); replace hF := fr_own hF f4 (by omega); have s_f4 := f4.size; replace o3 := o3.fr f4 (by omega))
              | (at_builtin; refine wpList_app _ rfl (.tmp 47) (.tmp 48) _ rfl 3 i0 (.int .i64 0) 1 8 Try.underlying22 hi0 hz0 hz1 hz2 rfl (by decide) _ _ _ _ _ _ rfl o5 _ _ _ _ _ rfl o3.sees (by intro u hu; cases hu) (by omega) (by omega) (by omega) ?_; intro A25 c25 w25 o6 f5; replace hr := hr.fr f5 (by omega); replace hF := fr_own hF f5 (by omega); have s_f5 := f5.size))
            simp only [Nat.add_zero, List.append_nil] at o6
            rw [show ints (o.take k) ++ [Value.int .i64 (k : Int)] = ints (o.take k ++ [(k : Int)]) by rw [ints_app]; rfl] at o6
            replace o6 := o6.wide (show w.heap.size ≤ _ by omega) (Nat.le_refl _)
            go_roundw
            case rel => exact ⟨k + 1, _, _, _, _, by omega, by go_num, rfl, o6, by omega, hr, hF⟩
            case measure => simp [intOf]; omega
          · have y1 := (o2.sees.more (show wr.heap.size ≤ w4.heap.size by omega)).tail (t) (by omega) _ (fun _ => rfl)
            have x1 := (o2.sees.more (show wr.heap.size ≤ w4.heap.size by omega)).init (t) (by omega)
            have e0 := newEmpty w4 3 1
            have bn := below_new w4 (.cells #[] 3)
            replace y1 := y1.below bn (Nat.le_refl _)
            replace x1 := x1.below bn (Nat.le_refl _)
            have zA : (w4.alloc (.cells #[] 3)).heap.size = w4.heap.size + 1 := World.size_alloc _ _
            replace hr := hr.below bn
            replace hF := fr_below hF bn
            clear bn o2
            go_wp2_with (first
              | (at_builtin; refine wpList_app _ rfl (.tmp 35) (.tmp 38) _ rfl 3 i0 (.int .i64 0) 1 8 Try.underlying22 hi0 hz0 hz1 hz2 rfl (by decide) w4.heap.size (w4.heap.size + 1) _ 0 0 [] rfl e0 _ _ _ _ _ rfl y1 (ints_one _) (by omega) (by omega) (by omega) ?_; intro A22 c22 w22 o3 f2; simp only [Nat.zero_add, List.nil_append] at o3; replace hr := hr.fr f2 (by omega); replace hF := fr_own hF f2 (by omega); have s_f2 := f2.size; replace x1 := x1.fr f2 (by omega) (by omega); have e1 := newEmpty w22 3 1; have b1 := below_new w22 (.cells #[] 3); have z1 : (w22.alloc (.cells #[] 3)).heap.size = w22.heap.size + 1 := World.size_alloc _ _; replace o3 := o3.below b1; replace x1 := x1.below b1 (by omega); replace hr := hr.below b1; replace hF := fr_below hF b1)
              | (at_builtin; refine wpList_app _ rfl (.tmp 40) (.tmp 43) _ rfl 3 i0 (.int .i64 0) 1 8 Try.underlying22 hi0 hz0 hz1 hz2 rfl (by decide) _ _ _ 0 0 [] rfl e1 _ _ _ _ _ rfl x1 (ints_one _) (by omega) (by omega) (by omega) ?_; intro A23 c23 w23 o4 f3; simp only [Nat.zero_add, List.nil_append] at o4; replace hr := hr.fr f3 (by omega); replace hF := fr_own hF f3 (by omega); have s_f3 := f3.size; replace o3 := o3.fr f3 (by omega); have b2 := below_new w23 (.cells #[.int .i64 (k : Int)] 3); have q2 := Sees.one w23 3 (.int .i64 (k : Int)); have z2 : (w23.alloc (.cells #[.int .i64 (k : Int)] 3)).heap.size = w23.heap.size + 1 := World.size_alloc _ _; replace o3 := o3.below b2; replace o4 := o4.below b2; replace hr := hr.below b2; replace hF := fr_below hF b2)
              | (at_builtin; refine wpList_app _ rfl (.tmp 44) (.tmp 46) _ rfl 3 i0 (.int .i64 0) 1 8 Try.underlying22 hi0 hz0 hz1 hz2 rfl (by decide) _ _ _ _ _ _ rfl o4 _ _ _ _ _ rfl q2 (one_int _) (by omega) (by omega) (by omega) ?_; intro A24 c24 w24 o5 f4; replace hr := hr.fr f4 (by omega); replace hF := fr_own hF f4 (by omega); have s_f4 := f4.size; replace o3 := o3.fr f4 (by omega))
              | (at_builtin; refine wpList_app _ rfl (.tmp 47) (.tmp 48) _ rfl 3 i0 (.int .i64 0) 1 8 Try.underlying22 hi0 hz0 hz1 hz2 rfl (by decide) _ _ _ _ _ _ rfl o5 _ _ _ _ _ rfl o3.sees (ints_one _) (by omega) (by omega) (by omega) ?_; intro A25 c25 w25 o6 f5; replace hr := hr.fr f5 (by omega); replace hF := fr_own hF f5 (by omega); have s_f5 := f5.size))
            have hlen : t + 1 + (k - t) = k + 1 := by omega
            rw [show (ints (o.take (t)) ++ [Value.int .i64 (k : Int)]) ++ ints (o.drop (t)) = ints ((o.take (t) ++ [(k : Int)]) ++ o.drop (t)) by rw [ints_app, ints_app]; rfl, hlen] at o6
            replace o6 := o6.wide (show w.heap.size ≤ _ by omega) (Nat.le_refl _)
            (try rw [hlen])
            go_roundw
            case rel => exact ⟨k + 1, _, _, _, _, by omega, by go_num, rfl, o6, by omega, hr, hF⟩
            case measure => simp [intOf]; omega
        · skip
          by_cases hca : c = k
          · skip
            have hck2 : k = c := hca.symm
            subst hck2
            have x1 := (o2.sees.more (show wr.heap.size ≤ w3.heap.size by omega)).init (k) (by omega)
            have e0 := newEmpty w3 3 1
            have bn := below_new w3 (.cells #[] 3)
            skip
            replace x1 := x1.below bn (Nat.le_refl _)
            have zA : (w3.alloc (.cells #[] 3)).heap.size = w3.heap.size + 1 := World.size_alloc _ _
            replace hr := hr.below bn
            replace hF := fr_below hF bn
            clear bn o2
            go_wp2_with (first
              | (at_builtin; refine wpList_app _ rfl (.tmp 35) (.tmp 38) _ rfl 3 i0 (.int .i64 0) 1 8 Try.underlying22 hi0 hz0 hz1 hz2 rfl (by decide) w3.heap.size (w3.heap.size + 1) _ 0 0 [] rfl e0 _ _ _ _ _ rfl (Sees.none_ _ w3.heap.size 1 _ (by omega) _) (by intro u hu; cases hu) (by omega) (by omega) (by omega) ?_; intro A22 c22 w22 o3 f2; simp only [Nat.zero_add, List.nil_append] at o3; replace hr := hr.fr f2 (by omega); replace hF := fr_own hF f2 (by omega); have s_f2 := f2.size; replace x1 := x1.fr f2 (by omega) (by omega); have e1 := newEmpty w22 3 1; have b1 := below_new w22 (.cells #[] 3); have z1 : (w22.alloc (.cells #[] 3)).heap.size = w22.heap.size + 1 := World.size_alloc _ _; replace o3 := o3.below b1; replace x1 := x1.below b1 (by omega); replace hr := hr.below b1; replace hF := fr_below hF b1)
              | (at_builtin; refine wpList_app _ rfl (.tmp 40) (.tmp 43) _ rfl 3 i0 (.int .i64 0) 1 8 Try.underlying22 hi0 hz0 hz1 hz2 rfl (by decide) _ _ _ 0 0 [] rfl e1 _ _ _ _ _ rfl x1 (ints_one _) (by omega) (by omega) (by omega) ?_; intro A23 c23 w23 o4 f3; simp only [Nat.zero_add, List.nil_append] at o4; replace hr := hr.fr f3 (by omega); replace hF := fr_own hF f3 (by omega); have s_f3 := f3.size; replace o3 := o3.fr f3 (by omega); have b2 := below_new w23 (.cells #[.int .i64 (k : Int)] 3); have q2 := Sees.one w23 3 (.int .i64 (k : Int)); have z2 : (w23.alloc (.cells #[.int .i64 (k : Int)] 3)).heap.size = w23.heap.size + 1 := World.size_alloc _ _; replace o3 := o3.below b2; replace o4 := o4.below b2; replace hr := hr.below b2; replace hF := fr_below hF b2)
              | (at_builtin; refine wpList_app _ rfl (.tmp 44) (.tmp 46) _ rfl 3 i0 (.int .i64 0) 1 8 Try.underlying22 hi0 hz0 hz1 hz2 rfl (by decide) _ _ _ _ _ _ rfl o4 _ _ _ _ _ rfl q2 (one_int _) (by omega) (by omega) (by omega) ?_; intro A24 c24 w24 o5 f4; replace hr := hr.fr f4 (by omega); replace hF := fr_own hF f4 (by omega); have s_f4 := f4.size; replace o3 := o3.fr f4 (by omega))
              | (at_builtin; refine wpList_app _ rfl (.tmp 47) (.tmp 48) _ rfl 3 i0 (.int .i64 0) 1 8 Try.underlying22 hi0 hz0 hz1 hz2 rfl (by decide) _ _ _ _ _ _ rfl o5 _ _ _ _ _ rfl o3.sees (by intro u hu; cases hu) (by omega) (by omega) (by omega) ?_; intro A25 c25 w25 o6 f5; replace hr := hr.fr f5 (by omega); replace hF := fr_own hF f5 (by omega); have s_f5 := f5.size))
            simp only [Nat.add_zero, List.append_nil] at o6
            rw [show ints (o.take k) ++ [Value.int .i64 (k : Int)] = ints (o.take k ++ [(k : Int)]) by rw [ints_app]; rfl] at o6
            replace o6 := o6.wide (show w.heap.size ≤ _ by omega) (Nat.le_refl _)
            go_roundw
            case rel => exact ⟨k + 1, _, _, _, _, by omega, by go_num, rfl, o6, by omega, hr, hF⟩
            case measure => simp [intOf]; omega
          · have x1 := (o2.sees.more (show wr.heap.size ≤ w3.heap.size by omega)).init (k) (by omega)
            have e0 := newEmpty w3 3 1
            have bn := below_new w3 (.cells #[] 3)
            skip
            replace x1 := x1.below bn (Nat.le_refl _)
            have zA : (w3.alloc (.cells #[] 3)).heap.size = w3.heap.size + 1 := World.size_alloc _ _
            replace hr := hr.below bn
            replace hF := fr_below hF bn
            clear bn o2
            go_wp2_with (first
              | (at_builtin; refine wpList_app _ rfl (.tmp 35) (.tmp 38) _ rfl 3 i0 (.int .i64 0) 1 8 Try.underlying22 hi0 hz0 hz1 hz2 rfl (by decide) w3.heap.size (w3.heap.size + 1) _ 0 0 [] rfl e0 _ _ _ _ _ rfl (Sees.none_ _ w3.heap.size 1 _ (by omega) _) (by intro u hu; cases hu) (by omega) (by omega) (by omega) ?_; intro A22 c22 w22 o3 f2; simp only [Nat.zero_add, List.nil_append] at o3; replace hr := hr.fr f2 (by omega); replace hF := fr_own hF f2 (by omega); have s_f2 := f2.size; replace x1 := x1.fr f2 (by omega) (by omega); have e1 := newEmpty w22 3 1; have b1 := below_new w22 (.cells #[] 3); have z1 : (w22.alloc (.cells #[] 3)).heap.size = w22.heap.size + 1 := World.size_alloc _ _; replace o3 := o3.below b1; replace x1 := x1.below b1 (by omega); replace hr := hr.below b1; replace hF := fr_below hF b1)
              | (at_builtin; refine wpList_app _ rfl (.tmp 40) (.tmp 43) _ rfl 3 i0 (.int .i64 0) 1 8 Try.underlying22 hi0 hz0 hz1 hz2 rfl (by decide) _ _ _ 0 0 [] rfl e1 _ _ _ _ _ rfl x1 (ints_one _) (by omega) (by omega) (by omega) ?_; intro A23 c23 w23 o4 f3; simp only [Nat.zero_add, List.nil_append] at o4; replace hr := hr.fr f3 (by omega); replace hF := fr_own hF f3 (by omega); have s_f3 := f3.size; replace o3 := o3.fr f3 (by omega); have b2 := below_new w23 (.cells #[.int .i64 (k : Int)] 3); have q2 := Sees.one w23 3 (.int .i64 (k : Int)); have z2 : (w23.alloc (.cells #[.int .i64 (k : Int)] 3)).heap.size = w23.heap.size + 1 := World.size_alloc _ _; replace o3 := o3.below b2; replace o4 := o4.below b2; replace hr := hr.below b2; replace hF := fr_below hF b2)
              | (at_builtin; refine wpList_app _ rfl (.tmp 44) (.tmp 46) _ rfl 3 i0 (.int .i64 0) 1 8 Try.underlying22 hi0 hz0 hz1 hz2 rfl (by decide) _ _ _ _ _ _ rfl o4 _ _ _ _ _ rfl q2 (one_int _) (by omega) (by omega) (by omega) ?_; intro A24 c24 w24 o5 f4; replace hr := hr.fr f4 (by omega); replace hF := fr_own hF f4 (by omega); have s_f4 := f4.size; replace o3 := o3.fr f4 (by omega))
              | (at_builtin; refine wpList_app _ rfl (.tmp 47) (.tmp 48) _ rfl 3 i0 (.int .i64 0) 1 8 Try.underlying22 hi0 hz0 hz1 hz2 rfl (by decide) _ _ _ _ _ _ rfl o5 _ _ _ _ _ rfl o3.sees (by intro u hu; cases hu) (by omega) (by omega) (by omega) ?_; intro A25 c25 w25 o6 f5; replace hr := hr.fr f5 (by omega); replace hF := fr_own hF f5 (by omega); have s_f5 := f5.size))
            simp only [Nat.add_zero, List.append_nil] at o6
            rw [show ints (o.take k) ++ [Value.int .i64 (k : Int)] = ints (o.take k ++ [(k : Int)]) by rw [ints_app]; rfl] at o6
            replace o6 := o6.wide (show w.heap.size ≤ _ by omega) (Nat.le_refl _)
            go_roundw
            case rel => exact ⟨k + 1, _, _, _, _, by omega, by go_num, rfl, o6, by omega, hr, hF⟩
            case measure => simp [intOf]; omega
    · have hkm : k = many := by omega
      subst hkm
      by_cases hk0 : k = 0
      · go_wp2_with fail
        go_ret
        exact ⟨_, _, _, q, rfl, o2.wide (by omega) (by omega), by omega, hr, hF⟩
      · go_wp2_with fail
        refine (odd_any (R) (q) (m) _ hr (by omega) (by omega) (by omega)).mono ?_
        rintro e w3 ⟨bb, q4, rfl, h3, q3, f3, e3⟩
        have s3 := f3.size
        clear hr
        have hr := q3
        clear q3
        replace o2 := o2.fr f3 (by omega)
        replace hF := hF.trans f3
        clear f3
        have q40 := h3.1
        have q41 := h3.2
        clear h3 e3
        cases bb
        · go_wp2_with fail
          go_ret
          exact ⟨_, _, _, q4, rfl, o2.wide (by omega) (by omega), by omega, hr, hF⟩
        · have ho0 : 0 < o.length := by rw [HOL.out]; omega
          obtain ⟨v0, hv0⟩ : ∃ v, o[0] = v := ⟨_, rfl⟩
          have HV0 := Lib.hid hv0
          clear hv0
          obtain ⟨g2, hA, hg1, hg2, hg3⟩ := o2.head (by omega)
          subst hA
          go_wp2_with fail
          have hn4 : Below w3.heap.size w3 w3.drew := below_drewN (Below.refl _ _) 1
          have s4 : w3.heap.size ≤ w3.drew.heap.size := Nat.le_refl _
          replace o2 := o2.below hn4
          replace hr := hr.below hn4
          replace hF := fr_below hF hn4
          clear hn4
          refine wp_region_noPanic ?_
          refine wp_region_held_drew (S := fun w' => True) (by kernel_rfl) trivial (fun hHeld => ?_)
          generalize w3.drew = u4 at *
          refine wpAnyH_take (i := 0) (v := ?_) rfl (by kernel_rfl) (by kernel_rfl) (by kernel_rfl) (fun _ _ _ h => h) (Or.inl ⟨by rfl, ?_⟩) (by assumption) ?_
          rotate_left
          · (intro wz hSw; (try dsimp only at hSw); go_simp; try with_reducible rfl)
          simp only [Act.put, List.getElem_toArray, List.getElem_cons_zero, List.getElem_cons_succ, List.setIfInBounds_toArray, List.set_cons_zero, List.set_cons_succ]
          refine wpAnyH_take (i := 1) (v := ?_) rfl (by kernel_rfl) (by kernel_rfl) (by kernel_rfl) (fun _ _ _ h => h) (Or.inl ⟨by rfl, ?_⟩) (by assumption) ?_
          rotate_left
          · (intro wz hSw; (try dsimp only at hSw); go_simp; try with_reducible rfl)
          simp only [Act.put, List.getElem_toArray, List.getElem_cons_zero, List.getElem_cons_succ, List.setIfInBounds_toArray, List.set_cons_zero, List.set_cons_succ]
          refine wpAnyH_take (i := 2) (v := ?_) rfl (by kernel_rfl) (by kernel_rfl) (by kernel_rfl) (fun _ _ _ h => h) (Or.inl ⟨by rfl, ?_⟩) (by assumption) ?_
          rotate_left
          · (intro wz hSw; (try dsimp only at hSw); go_simp; try with_reducible rfl)
          simp only [Act.put, List.getElem_toArray, List.getElem_cons_zero, List.getElem_cons_succ, List.setIfInBounds_toArray, List.set_cons_zero, List.set_cons_succ]
          refine wpAnyH_take (i := 3) (v := ?_) rfl (by kernel_rfl) (by kernel_rfl) (by kernel_rfl) (fun _ _ _ h => h) (Or.inl ⟨by rfl, ?_⟩) (by assumption) ?_
          rotate_left
          · (intro wz hSw; (try dsimp only at hSw); go_simp; try with_reducible rfl)
          simp only [Act.put, List.getElem_toArray, List.getElem_cons_zero, List.getElem_cons_succ, List.setIfInBounds_toArray, List.set_cons_zero, List.set_cons_succ]
          refine wpAnyH_take (i := 5) (v := ?_) rfl (by kernel_rfl) (by kernel_rfl) (by kernel_rfl) (fun _ _ _ h => h) (Or.inl ⟨by rfl, ?_⟩) (by assumption) ?_
          rotate_left
          · (intro wz hSw; (try dsimp only at hSw); go_simp; try with_reducible rfl)
          simp only [Act.put, List.getElem_toArray, List.getElem_cons_zero, List.getElem_cons_succ, List.setIfInBounds_toArray, List.set_cons_zero, List.set_cons_succ]
          refine wpAnyH_take (i := 6) (v := ?_) rfl (by kernel_rfl) (by kernel_rfl) (by kernel_rfl) (fun _ _ _ h => h) (Or.inl ⟨by rfl, ?_⟩) (by assumption) ?_
          rotate_left
          · (intro wz hSw; (try dsimp only at hSw); go_simp; try with_reducible rfl)
          simp only [Act.put, List.getElem_toArray, List.getElem_cons_zero, List.getElem_cons_succ, List.setIfInBounds_toArray, List.set_cons_zero, List.set_cons_succ]
          refine wpAnyH_take (i := 7) (v := ?_) rfl (by kernel_rfl) (by kernel_rfl) (by kernel_rfl) (fun _ _ _ h => h) (Or.inl ⟨by rfl, ?_⟩) (by assumption) ?_
          rotate_left
          · (intro wz hSw; (try dsimp only at hSw); go_simp; try with_reducible rfl)
          simp only [Act.put, List.getElem_toArray, List.getElem_cons_zero, List.getElem_cons_succ, List.setIfInBounds_toArray, List.set_cons_zero, List.set_cons_succ]
          refine wpAnyH_take (i := 10) (v := ?_) rfl (by kernel_rfl) (by kernel_rfl) (by kernel_rfl) (fun _ _ _ h => h) (Or.inl ⟨by rfl, ?_⟩) (by assumption) ?_
          rotate_left
          · (intro wz hSw; (try dsimp only at hSw); go_simp; try with_reducible rfl)
          simp only [Act.put, List.getElem_toArray, List.getElem_cons_zero, List.getElem_cons_succ, List.setIfInBounds_toArray, List.set_cons_zero, List.set_cons_succ]
          refine wpAnyH_ready (rs := [4, 8]) (by kernel_rfl) (by simp) ?_
          refine AllReadyH.cons rfl (fun K hK => ?_) ?_
          · go_simp
            refine (pick_any (R) (q4) ((k : Int)) _ hr (by omega)).mono ?_
            rintro e w5 ⟨i1, rfl, h5, q5, f5, e5⟩
            have s5 := f5.size
            clear hr
            have hr := q5
            clear q5
            replace o2 := o2.fr f5 (by omega)
            replace hF := hF.trans f5
            clear f5
            obtain ⟨i10, i11⟩ : 0 ≤ i1 ∧ i1 < (k : Int) := by omega
            clear h5 e5
            obtain ⟨t, rfl⟩ := Int.eq_ofNat_of_zero_le i10
            have ht : t < k := by omega
            refine hK.out _ _ trivial (fun hHeld => ?_)
            clear hK K
            try simp only [Act.put, List.getElem_toArray, List.getElem_cons_zero, List.getElem_cons_succ, List.setIfInBounds_toArray, List.set_cons_zero, List.set_cons_succ]
            refine wpAnyH_ready (rs := [8, 11]) (by kernel_rfl) (by simp) ?_
            refine AllReadyH.cons rfl (fun K hK => ?_) ?_
            · have hx1 := o2.cell rfl 0 _ (ints_get o 0 ho0)
              rw [HV0.out] at hx1
              go_simp
              clear hx1
              refine hK.out _ _ trivial (fun hHeld => ?_)
              clear hK K
              try simp only [Act.put, List.getElem_toArray, List.getElem_cons_zero, List.getElem_cons_succ, List.setIfInBounds_toArray, List.set_cons_zero, List.set_cons_succ]
              refine wpAnyH_ready (rs := [9, 11]) (by kernel_rfl) (by simp) ?_
              refine AllReadyH.cons rfl (fun K hK => ?_) ?_
              · have hn6 := below_new w5 (.cells #[.int .i64 (-1), .int .i64 (k : Int), .int .i64 v0] 3)
                replace o2 := o2.below hn6
                replace hr := hr.below hn6
                replace hF := fr_below hF hn6
                clear hn6
                have s6 : w5.heap.size < (w5.alloc (.cells #[.int .i64 (-1), .int .i64 (k : Int), .int .i64 v0] 3)).heap.size := Nat.lt_of_lt_of_eq (Nat.lt_succ_self _) (World.size_alloc _ _).symm
                have rl : (w5.alloc (.cells #[.int .i64 (-1), .int .i64 (k : Int), .int .i64 v0] 3)).heap[w5.heap.size]? = some (.cells #[.int .i64 (-1), .int .i64 (k : Int), .int .i64 v0] 3 (0, 0)) := by have q := heap_alloc_new w5 (.cells #[.int .i64 (-1), .int .i64 (k : Int), .int .i64 v0] 3); (try simp only [World.size_alloc, World.size_setCell] at q); exact q
                go_simp
                refine hK.out _ _ trivial (fun hHeld => ?_)
                generalize (w5.alloc (.cells #[.int .i64 (-1), .int .i64 (k : Int), .int .i64 v0] 3)) = u6 at *
                clear hK K
                try simp only [Act.put, List.getElem_toArray, List.getElem_cons_zero, List.getElem_cons_succ, List.setIfInBounds_toArray, List.set_cons_zero, List.set_cons_succ]
                refine wpAnyH_ready (rs := [11]) (by kernel_rfl) (by simp) ?_
                refine AllReadyH.cons rfl (fun K hK => ?_) ?_
                · go_simp
                  refine (pick_any (R) ((q4 + 1)) (3) _ hr (by omega)).mono ?_
                  rintro e w7 ⟨i3, rfl, h7, q7, f7, e7⟩
                  have s7 := f7.size
                  clear hr
                  have hr := q7
                  clear q7
                  replace rl := rowFr rl f7 (by omega)
                  replace o2 := o2.fr f7 (by omega)
                  replace hF := hF.trans f7
                  clear f7
                  obtain ⟨i30, i31⟩ : 0 ≤ i3 ∧ i3 < 3 := by omega
                  clear h7 e7
                  refine hK.out _ _ trivial (fun hHeld => ?_)
                  clear hK K
                  try simp only [Act.put, List.getElem_toArray, List.getElem_cons_zero, List.getElem_cons_succ, List.setIfInBounds_toArray, List.set_cons_zero, List.set_cons_succ]
                  refine wpAnyH_take (i := 12) (v := ?_) rfl (by kernel_rfl) (by kernel_rfl) (by kernel_rfl) (fun _ _ _ h => h) (Or.inl ⟨by rfl, ?_⟩) (by assumption) ?_
                  rotate_left
                  · (intro wz hSw; (try dsimp only at hSw); go_simp; try with_reducible rfl)
                  simp only [Act.put, List.getElem_toArray, List.getElem_cons_zero, List.getElem_cons_succ, List.setIfInBounds_toArray, List.set_cons_zero, List.set_cons_succ]
                  refine wpAnyH_ready (rs := [13]) (by kernel_rfl) (by simp) ?_
                  refine AllReadyH.cons rfl (fun K hK => ?_) ?_
                  · obtain ⟨y, hy, hpk⟩ := pickL (fun _ => True) [-1, (k : Int), v0] i3 (fun _ _ => trivial) i30 i31
                    have hcw := lit_at rl hpk
                    clear hpk
                    go_simp
                    clear hcw
                    refine hK.out _ _ trivial (fun hHeld => ?_)
                    clear hK K
                    try simp only [Act.put, List.getElem_toArray, List.getElem_cons_zero, List.getElem_cons_succ, List.setIfInBounds_toArray, List.set_cons_zero, List.set_cons_succ]
                    refine wpAnyH_take (i := 14) (v := ?_) rfl (by kernel_rfl) (by kernel_rfl) (by kernel_rfl) (fun _ _ _ h => h) (Or.inl ⟨by rfl, ?_⟩) (by assumption) ?_
                    rotate_left
                    · (intro wz hSw; (try dsimp only at hSw); go_simp; try with_reducible rfl)
                    simp only [Act.put, List.getElem_toArray, List.getElem_cons_zero, List.getElem_cons_succ, List.setIfInBounds_toArray, List.set_cons_zero, List.set_cons_succ]
                    refine wpAnyH_ready (rs := [15]) (by kernel_rfl) (by simp) ?_
                    refine AllReadyH.cons rfl (fun K hK => ?_) ?_
                    · have hxl : (ints o).length = k := by rw [ints_length]; exact HOL.out
                      have hx1 := o2.cell rfl t _ (List.getElem?_eq_getElem (by omega))
                      have z1 := o2.frozen rfl t
                      replace rl := rowSet rl ⟨g2, t, none⟩ (.int .i64 y) (by show _ ≠ g2; omega)
                      replace o2 := o2.set rfl t (.int .i64 y)
                      replace hr := rd_setc hr ⟨g2, t, none⟩ (.int .i64 y) (by show _ < g2; omega)
                      replace hF := fr_setd hF (p := ⟨g2, t, none⟩) (by show _ ≤ g2; omega) (.int .i64 y)
                      have s8 : w7.heap.size ≤ (w7.setCell ⟨g2, t, none⟩ (.int .i64 y)).heap.size := Nat.le_of_eq (World.size_setCell _ _ _).symm
                      rw [ints_set] at o2
                      go_simp
                      refine hK.out _ _ trivial (fun hHeld => ?_)
                      clear z1 hx1
                      generalize (w7.setCell ⟨g2, t, none⟩ (.int .i64 y)) = u8 at *
                      clear hK K
                      try simp only [Act.put, List.getElem_toArray, List.getElem_cons_zero, List.getElem_cons_succ, List.setIfInBounds_toArray, List.set_cons_zero, List.set_cons_succ]
                      refine wpAnyH_done (by kernel_rfl) ?_ _
                      refine NoPanic.normal ?_
                      go_wp2_with fail
                      go_ret
                      exact ⟨_, _, _, ((q4 + 1) + 1), rfl, o2.wide (by omega) (by omega), by omega, hr, hF⟩
                    exact AllReadyH.nil
                  exact AllReadyH.nil
                exact AllReadyH.nil
              refine AllReadyH.cons rfl (fun K hK => ?_) ?_
              · go_simp
                refine (pick_any (R) ((q4 + 1)) (3) _ hr (by omega)).mono ?_
                rintro e w6 ⟨i3, rfl, h6, q6, f6, e6⟩
                have s6 := f6.size
                clear hr
                have hr := q6
                clear q6
                replace o2 := o2.fr f6 (by omega)
                replace hF := hF.trans f6
                clear f6
                obtain ⟨i30, i31⟩ : 0 ≤ i3 ∧ i3 < 3 := by omega
                clear h6 e6
                refine hK.out _ _ trivial (fun hHeld => ?_)
                clear hK K
                try simp only [Act.put, List.getElem_toArray, List.getElem_cons_zero, List.getElem_cons_succ, List.setIfInBounds_toArray, List.set_cons_zero, List.set_cons_succ]
                refine wpAnyH_ready (rs := [9]) (by kernel_rfl) (by simp) ?_
                refine AllReadyH.cons rfl (fun K hK => ?_) ?_
                · have hn7 := below_new w6 (.cells #[.int .i64 (-1), .int .i64 (k : Int), .int .i64 v0] 3)
                  replace o2 := o2.below hn7
                  replace hr := hr.below hn7
                  replace hF := fr_below hF hn7
                  clear hn7
                  have s7 : w6.heap.size < (w6.alloc (.cells #[.int .i64 (-1), .int .i64 (k : Int), .int .i64 v0] 3)).heap.size := Nat.lt_of_lt_of_eq (Nat.lt_succ_self _) (World.size_alloc _ _).symm
                  have rl : (w6.alloc (.cells #[.int .i64 (-1), .int .i64 (k : Int), .int .i64 v0] 3)).heap[w6.heap.size]? = some (.cells #[.int .i64 (-1), .int .i64 (k : Int), .int .i64 v0] 3 (0, 0)) := by have q := heap_alloc_new w6 (.cells #[.int .i64 (-1), .int .i64 (k : Int), .int .i64 v0] 3); (try simp only [World.size_alloc, World.size_setCell] at q); exact q
                  go_simp
                  refine hK.out _ _ trivial (fun hHeld => ?_)
                  generalize (w6.alloc (.cells #[.int .i64 (-1), .int .i64 (k : Int), .int .i64 v0] 3)) = u7 at *
                  clear hK K
                  try simp only [Act.put, List.getElem_toArray, List.getElem_cons_zero, List.getElem_cons_succ, List.setIfInBounds_toArray, List.set_cons_zero, List.set_cons_succ]
                  refine wpAnyH_take (i := 12) (v := ?_) rfl (by kernel_rfl) (by kernel_rfl) (by kernel_rfl) (fun _ _ _ h => h) (Or.inl ⟨by rfl, ?_⟩) (by assumption) ?_
                  rotate_left
                  · (intro wz hSw; (try dsimp only at hSw); go_simp; try with_reducible rfl)
                  simp only [Act.put, List.getElem_toArray, List.getElem_cons_zero, List.getElem_cons_succ, List.setIfInBounds_toArray, List.set_cons_zero, List.set_cons_succ]
                  refine wpAnyH_ready (rs := [13]) (by kernel_rfl) (by simp) ?_
                  refine AllReadyH.cons rfl (fun K hK => ?_) ?_
                  · obtain ⟨y, hy, hpk⟩ := pickL (fun _ => True) [-1, (k : Int), v0] i3 (fun _ _ => trivial) i30 i31
                    have hcw := lit_at rl hpk
                    clear hpk
                    go_simp
                    clear hcw
                    refine hK.out _ _ trivial (fun hHeld => ?_)
                    clear hK K
                    try simp only [Act.put, List.getElem_toArray, List.getElem_cons_zero, List.getElem_cons_succ, List.setIfInBounds_toArray, List.set_cons_zero, List.set_cons_succ]
                    refine wpAnyH_take (i := 14) (v := ?_) rfl (by kernel_rfl) (by kernel_rfl) (by kernel_rfl) (fun _ _ _ h => h) (Or.inl ⟨by rfl, ?_⟩) (by assumption) ?_
                    rotate_left
                    · (intro wz hSw; (try dsimp only at hSw); go_simp; try with_reducible rfl)
                    simp only [Act.put, List.getElem_toArray, List.getElem_cons_zero, List.getElem_cons_succ, List.setIfInBounds_toArray, List.set_cons_zero, List.set_cons_succ]
                    refine wpAnyH_ready (rs := [15]) (by kernel_rfl) (by simp) ?_
                    refine AllReadyH.cons rfl (fun K hK => ?_) ?_
                    · have hxl : (ints o).length = k := by rw [ints_length]; exact HOL.out
                      have hx1 := o2.cell rfl t _ (List.getElem?_eq_getElem (by omega))
                      have z1 := o2.frozen rfl t
                      replace rl := rowSet rl ⟨g2, t, none⟩ (.int .i64 y) (by show _ ≠ g2; omega)
                      replace o2 := o2.set rfl t (.int .i64 y)
                      replace hr := rd_setc hr ⟨g2, t, none⟩ (.int .i64 y) (by show _ < g2; omega)
                      replace hF := fr_setd hF (p := ⟨g2, t, none⟩) (by show _ ≤ g2; omega) (.int .i64 y)
                      have s8 : u7.heap.size ≤ (u7.setCell ⟨g2, t, none⟩ (.int .i64 y)).heap.size := Nat.le_of_eq (World.size_setCell _ _ _).symm
                      rw [ints_set] at o2
                      go_simp
                      refine hK.out _ _ trivial (fun hHeld => ?_)
                      clear z1 hx1
                      generalize (u7.setCell ⟨g2, t, none⟩ (.int .i64 y)) = u8 at *
                      clear hK K
                      try simp only [Act.put, List.getElem_toArray, List.getElem_cons_zero, List.getElem_cons_succ, List.setIfInBounds_toArray, List.set_cons_zero, List.set_cons_succ]
                      refine wpAnyH_done (by kernel_rfl) ?_ _
                      refine NoPanic.normal ?_
                      go_wp2_with fail
                      go_ret
                      exact ⟨_, _, _, ((q4 + 1) + 1), rfl, o2.wide (by omega) (by omega), by omega, hr, hF⟩
                    exact AllReadyH.nil
                  exact AllReadyH.nil
                exact AllReadyH.nil
              exact AllReadyH.nil
            refine AllReadyH.cons rfl (fun K hK => ?_) ?_
            · go_simp
              refine (pick_any (R) ((q4 + 1)) (3) _ hr (by omega)).mono ?_
              rintro e w6 ⟨i3, rfl, h6, q6, f6, e6⟩
              have s6 := f6.size
              clear hr
              have hr := q6
              clear q6
              replace o2 := o2.fr f6 (by omega)
              replace hF := hF.trans f6
              clear f6
              obtain ⟨i30, i31⟩ : 0 ≤ i3 ∧ i3 < 3 := by omega
              clear h6 e6
              refine hK.out _ _ trivial (fun hHeld => ?_)
              clear hK K
              try simp only [Act.put, List.getElem_toArray, List.getElem_cons_zero, List.getElem_cons_succ, List.setIfInBounds_toArray, List.set_cons_zero, List.set_cons_succ]
              refine wpAnyH_ready (rs := [8]) (by kernel_rfl) (by simp) ?_
              refine AllReadyH.cons rfl (fun K hK => ?_) ?_
              · have hx1 := o2.cell rfl 0 _ (ints_get o 0 ho0)
                rw [HV0.out] at hx1
                go_simp
                clear hx1
                refine hK.out _ _ trivial (fun hHeld => ?_)
                clear hK K
                try simp only [Act.put, List.getElem_toArray, List.getElem_cons_zero, List.getElem_cons_succ, List.setIfInBounds_toArray, List.set_cons_zero, List.set_cons_succ]
                refine wpAnyH_ready (rs := [9]) (by kernel_rfl) (by simp) ?_
                refine AllReadyH.cons rfl (fun K hK => ?_) ?_
                · have hn7 := below_new w6 (.cells #[.int .i64 (-1), .int .i64 (k : Int), .int .i64 v0] 3)
                  replace o2 := o2.below hn7
                  replace hr := hr.below hn7
                  replace hF := fr_below hF hn7
                  clear hn7
                  have s7 : w6.heap.size < (w6.alloc (.cells #[.int .i64 (-1), .int .i64 (k : Int), .int .i64 v0] 3)).heap.size := Nat.lt_of_lt_of_eq (Nat.lt_succ_self _) (World.size_alloc _ _).symm
                  have rl : (w6.alloc (.cells #[.int .i64 (-1), .int .i64 (k : Int), .int .i64 v0] 3)).heap[w6.heap.size]? = some (.cells #[.int .i64 (-1), .int .i64 (k : Int), .int .i64 v0] 3 (0, 0)) := by have q := heap_alloc_new w6 (.cells #[.int .i64 (-1), .int .i64 (k : Int), .int .i64 v0] 3); (try simp only [World.size_alloc, World.size_setCell] at q); exact q
                  go_simp
                  refine hK.out _ _ trivial (fun hHeld => ?_)
                  generalize (w6.alloc (.cells #[.int .i64 (-1), .int .i64 (k : Int), .int .i64 v0] 3)) = u7 at *
                  clear hK K
                  try simp only [Act.put, List.getElem_toArray, List.getElem_cons_zero, List.getElem_cons_succ, List.setIfInBounds_toArray, List.set_cons_zero, List.set_cons_succ]
                  refine wpAnyH_take (i := 12) (v := ?_) rfl (by kernel_rfl) (by kernel_rfl) (by kernel_rfl) (fun _ _ _ h => h) (Or.inl ⟨by rfl, ?_⟩) (by assumption) ?_
                  rotate_left
                  · (intro wz hSw; (try dsimp only at hSw); go_simp; try with_reducible rfl)
                  simp only [Act.put, List.getElem_toArray, List.getElem_cons_zero, List.getElem_cons_succ, List.setIfInBounds_toArray, List.set_cons_zero, List.set_cons_succ]
                  refine wpAnyH_ready (rs := [13]) (by kernel_rfl) (by simp) ?_
                  refine AllReadyH.cons rfl (fun K hK => ?_) ?_
                  · obtain ⟨y, hy, hpk⟩ := pickL (fun _ => True) [-1, (k : Int), v0] i3 (fun _ _ => trivial) i30 i31
                    have hcw := lit_at rl hpk
                    clear hpk
                    go_simp
                    clear hcw
                    refine hK.out _ _ trivial (fun hHeld => ?_)
                    clear hK K
                    try simp only [Act.put, List.getElem_toArray, List.getElem_cons_zero, List.getElem_cons_succ, List.setIfInBounds_toArray, List.set_cons_zero, List.set_cons_succ]
                    refine wpAnyH_take (i := 14) (v := ?_) rfl (by kernel_rfl) (by kernel_rfl) (by kernel_rfl) (fun _ _ _ h => h) (Or.inl ⟨by rfl, ?_⟩) (by assumption) ?_
                    rotate_left
                    · (intro wz hSw; (try dsimp only at hSw); go_simp; try with_reducible rfl)
                    simp only [Act.put, List.getElem_toArray, List.getElem_cons_zero, List.getElem_cons_succ, List.setIfInBounds_toArray, List.set_cons_zero, List.set_cons_succ]
                    refine wpAnyH_ready (rs := [15]) (by kernel_rfl) (by simp) ?_
                    refine AllReadyH.cons rfl (fun K hK => ?_) ?_
                    · have hxl : (ints o).length = k := by rw [ints_length]; exact HOL.out
                      have hx1 := o2.cell rfl t _ (List.getElem?_eq_getElem (by omega))
                      have z1 := o2.frozen rfl t
                      replace rl := rowSet rl ⟨g2, t, none⟩ (.int .i64 y) (by show _ ≠ g2; omega)
                      replace o2 := o2.set rfl t (.int .i64 y)
                      replace hr := rd_setc hr ⟨g2, t, none⟩ (.int .i64 y) (by show _ < g2; omega)
                      replace hF := fr_setd hF (p := ⟨g2, t, none⟩) (by show _ ≤ g2; omega) (.int .i64 y)
                      have s8 : u7.heap.size ≤ (u7.setCell ⟨g2, t, none⟩ (.int .i64 y)).heap.size := Nat.le_of_eq (World.size_setCell _ _ _).symm
                      rw [ints_set] at o2
                      go_simp
                      refine hK.out _ _ trivial (fun hHeld => ?_)
                      clear z1 hx1
                      generalize (u7.setCell ⟨g2, t, none⟩ (.int .i64 y)) = u8 at *
                      clear hK K
                      try simp only [Act.put, List.getElem_toArray, List.getElem_cons_zero, List.getElem_cons_succ, List.setIfInBounds_toArray, List.set_cons_zero, List.set_cons_succ]
                      refine wpAnyH_done (by kernel_rfl) ?_ _
                      refine NoPanic.normal ?_
                      go_wp2_with fail
                      go_ret
                      exact ⟨_, _, _, ((q4 + 1) + 1), rfl, o2.wide (by omega) (by omega), by omega, hr, hF⟩
                    exact AllReadyH.nil
                  exact AllReadyH.nil
                exact AllReadyH.nil
              exact AllReadyH.nil
            exact AllReadyH.nil
          refine AllReadyH.cons rfl (fun K hK => ?_) ?_
          · have hx1 := o2.cell rfl 0 _ (ints_get o 0 ho0)
            rw [HV0.out] at hx1
            go_simp
            clear hx1
            refine hK.out _ _ trivial (fun hHeld => ?_)
            clear hK K
            try simp only [Act.put, List.getElem_toArray, List.getElem_cons_zero, List.getElem_cons_succ, List.setIfInBounds_toArray, List.set_cons_zero, List.set_cons_succ]
            refine wpAnyH_ready (rs := [4, 9]) (by kernel_rfl) (by simp) ?_
            refine AllReadyH.cons rfl (fun K hK => ?_) ?_
            · go_simp
              refine (pick_any (R) (q4) ((k : Int)) _ hr (by omega)).mono ?_
              rintro e w5 ⟨i1, rfl, h5, q5, f5, e5⟩
              have s5 := f5.size
              clear hr
              have hr := q5
              clear q5
              replace o2 := o2.fr f5 (by omega)
              replace hF := hF.trans f5
              clear f5
              obtain ⟨i10, i11⟩ : 0 ≤ i1 ∧ i1 < (k : Int) := by omega
              clear h5 e5
              obtain ⟨t, rfl⟩ := Int.eq_ofNat_of_zero_le i10
              have ht : t < k := by omega
              refine hK.out _ _ trivial (fun hHeld => ?_)
              clear hK K
              try simp only [Act.put, List.getElem_toArray, List.getElem_cons_zero, List.getElem_cons_succ, List.setIfInBounds_toArray, List.set_cons_zero, List.set_cons_succ]
              refine wpAnyH_ready (rs := [9, 11]) (by kernel_rfl) (by simp) ?_
              refine AllReadyH.cons rfl (fun K hK => ?_) ?_
              · have hn6 := below_new w5 (.cells #[.int .i64 (-1), .int .i64 (k : Int), .int .i64 v0] 3)
                replace o2 := o2.below hn6
                replace hr := hr.below hn6
                replace hF := fr_below hF hn6
                clear hn6
                have s6 : w5.heap.size < (w5.alloc (.cells #[.int .i64 (-1), .int .i64 (k : Int), .int .i64 v0] 3)).heap.size := Nat.lt_of_lt_of_eq (Nat.lt_succ_self _) (World.size_alloc _ _).symm
                have rl : (w5.alloc (.cells #[.int .i64 (-1), .int .i64 (k : Int), .int .i64 v0] 3)).heap[w5.heap.size]? = some (.cells #[.int .i64 (-1), .int .i64 (k : Int), .int .i64 v0] 3 (0, 0)) := by have q := heap_alloc_new w5 (.cells #[.int .i64 (-1), .int .i64 (k : Int), .int .i64 v0] 3); (try simp only [World.size_alloc, World.size_setCell] at q); exact q
                go_simp
                refine hK.out _ _ trivial (fun hHeld => ?_)
                generalize (w5.alloc (.cells #[.int .i64 (-1), .int .i64 (k : Int), .int .i64 v0] 3)) = u6 at *
                clear hK K
                try simp only [Act.put, List.getElem_toArray, List.getElem_cons_zero, List.getElem_cons_succ, List.setIfInBounds_toArray, List.set_cons_zero, List.set_cons_succ]
                refine wpAnyH_ready (rs := [11]) (by kernel_rfl) (by simp) ?_
                refine AllReadyH.cons rfl (fun K hK => ?_) ?_
                · go_simp
                  refine (pick_any (R) ((q4 + 1)) (3) _ hr (by omega)).mono ?_
                  rintro e w7 ⟨i3, rfl, h7, q7, f7, e7⟩
                  have s7 := f7.size
                  clear hr
                  have hr := q7
                  clear q7
                  replace rl := rowFr rl f7 (by omega)
                  replace o2 := o2.fr f7 (by omega)
                  replace hF := hF.trans f7
                  clear f7
                  obtain ⟨i30, i31⟩ : 0 ≤ i3 ∧ i3 < 3 := by omega
                  clear h7 e7
                  refine hK.out _ _ trivial (fun hHeld => ?_)
                  clear hK K
                  try simp only [Act.put, List.getElem_toArray, List.getElem_cons_zero, List.getElem_cons_succ, List.setIfInBounds_toArray, List.set_cons_zero, List.set_cons_succ]
                  refine wpAnyH_take (i := 12) (v := ?_) rfl (by kernel_rfl) (by kernel_rfl) (by kernel_rfl) (fun _ _ _ h => h) (Or.inl ⟨by rfl, ?_⟩) (by assumption) ?_
                  rotate_left
                  · (intro wz hSw; (try dsimp only at hSw); go_simp; try with_reducible rfl)
                  simp only [Act.put, List.getElem_toArray, List.getElem_cons_zero, List.getElem_cons_succ, List.setIfInBounds_toArray, List.set_cons_zero, List.set_cons_succ]
                  refine wpAnyH_ready (rs := [13]) (by kernel_rfl) (by simp) ?_
                  refine AllReadyH.cons rfl (fun K hK => ?_) ?_
                  · obtain ⟨y, hy, hpk⟩ := pickL (fun _ => True) [-1, (k : Int), v0] i3 (fun _ _ => trivial) i30 i31
                    have hcw := lit_at rl hpk
                    clear hpk
                    go_simp
                    clear hcw
                    refine hK.out _ _ trivial (fun hHeld => ?_)
                    clear hK K
                    try simp only [Act.put, List.getElem_toArray, List.getElem_cons_zero, List.getElem_cons_succ, List.setIfInBounds_toArray, List.set_cons_zero, List.set_cons_succ]
                    refine wpAnyH_take (i := 14) (v := ?_) rfl (by kernel_rfl) (by kernel_rfl) (by kernel_rfl) (fun _ _ _ h => h) (Or.inl ⟨by rfl, ?_⟩) (by assumption) ?_
                    rotate_left
                    · (intro wz hSw; (try dsimp only at hSw); go_simp; try with_reducible rfl)
                    simp only [Act.put, List.getElem_toArray, List.getElem_cons_zero, List.getElem_cons_succ, List.setIfInBounds_toArray, List.set_cons_zero, List.set_cons_succ]
                    refine wpAnyH_ready (rs := [15]) (by kernel_rfl) (by simp) ?_
                    refine AllReadyH.cons rfl (fun K hK => ?_) ?_
                    · have hxl : (ints o).length = k := by rw [ints_length]; exact HOL.out
                      have hx1 := o2.cell rfl t _ (List.getElem?_eq_getElem (by omega))
                      have z1 := o2.frozen rfl t
                      replace rl := rowSet rl ⟨g2, t, none⟩ (.int .i64 y) (by show _ ≠ g2; omega)
                      replace o2 := o2.set rfl t (.int .i64 y)
                      replace hr := rd_setc hr ⟨g2, t, none⟩ (.int .i64 y) (by show _ < g2; omega)
                      replace hF := fr_setd hF (p := ⟨g2, t, none⟩) (by show _ ≤ g2; omega) (.int .i64 y)
                      have s8 : w7.heap.size ≤ (w7.setCell ⟨g2, t, none⟩ (.int .i64 y)).heap.size := Nat.le_of_eq (World.size_setCell _ _ _).symm
                      rw [ints_set] at o2
                      go_simp
                      refine hK.out _ _ trivial (fun hHeld => ?_)
                      clear z1 hx1
                      generalize (w7.setCell ⟨g2, t, none⟩ (.int .i64 y)) = u8 at *
                      clear hK K
                      try simp only [Act.put, List.getElem_toArray, List.getElem_cons_zero, List.getElem_cons_succ, List.setIfInBounds_toArray, List.set_cons_zero, List.set_cons_succ]
                      refine wpAnyH_done (by kernel_rfl) ?_ _
                      refine NoPanic.normal ?_
                      go_wp2_with fail
                      go_ret
                      exact ⟨_, _, _, ((q4 + 1) + 1), rfl, o2.wide (by omega) (by omega), by omega, hr, hF⟩
                    exact AllReadyH.nil
                  exact AllReadyH.nil
                exact AllReadyH.nil
              refine AllReadyH.cons rfl (fun K hK => ?_) ?_
              · go_simp
                refine (pick_any (R) ((q4 + 1)) (3) _ hr (by omega)).mono ?_
                rintro e w6 ⟨i3, rfl, h6, q6, f6, e6⟩
                have s6 := f6.size
                clear hr
                have hr := q6
                clear q6
                replace o2 := o2.fr f6 (by omega)
                replace hF := hF.trans f6
                clear f6
                obtain ⟨i30, i31⟩ : 0 ≤ i3 ∧ i3 < 3 := by omega
                clear h6 e6
                refine hK.out _ _ trivial (fun hHeld => ?_)
                clear hK K
                try simp only [Act.put, List.getElem_toArray, List.getElem_cons_zero, List.getElem_cons_succ, List.setIfInBounds_toArray, List.set_cons_zero, List.set_cons_succ]
                refine wpAnyH_ready (rs := [9]) (by kernel_rfl) (by simp) ?_
                refine AllReadyH.cons rfl (fun K hK => ?_) ?_
                · have hn7 := below_new w6 (.cells #[.int .i64 (-1), .int .i64 (k : Int), .int .i64 v0] 3)
                  replace o2 := o2.below hn7
                  replace hr := hr.below hn7
                  replace hF := fr_below hF hn7
                  clear hn7
                  have s7 : w6.heap.size < (w6.alloc (.cells #[.int .i64 (-1), .int .i64 (k : Int), .int .i64 v0] 3)).heap.size := Nat.lt_of_lt_of_eq (Nat.lt_succ_self _) (World.size_alloc _ _).symm
                  have rl : (w6.alloc (.cells #[.int .i64 (-1), .int .i64 (k : Int), .int .i64 v0] 3)).heap[w6.heap.size]? = some (.cells #[.int .i64 (-1), .int .i64 (k : Int), .int .i64 v0] 3 (0, 0)) := by have q := heap_alloc_new w6 (.cells #[.int .i64 (-1), .int .i64 (k : Int), .int .i64 v0] 3); (try simp only [World.size_alloc, World.size_setCell] at q); exact q
                  go_simp
                  refine hK.out _ _ trivial (fun hHeld => ?_)
                  generalize (w6.alloc (.cells #[.int .i64 (-1), .int .i64 (k : Int), .int .i64 v0] 3)) = u7 at *
                  clear hK K
                  try simp only [Act.put, List.getElem_toArray, List.getElem_cons_zero, List.getElem_cons_succ, List.setIfInBounds_toArray, List.set_cons_zero, List.set_cons_succ]
                  refine wpAnyH_take (i := 12) (v := ?_) rfl (by kernel_rfl) (by kernel_rfl) (by kernel_rfl) (fun _ _ _ h => h) (Or.inl ⟨by rfl, ?_⟩) (by assumption) ?_
                  rotate_left
                  · (intro wz hSw; (try dsimp only at hSw); go_simp; try with_reducible rfl)
                  simp only [Act.put, List.getElem_toArray, List.getElem_cons_zero, List.getElem_cons_succ, List.setIfInBounds_toArray, List.set_cons_zero, List.set_cons_succ]
                  refine wpAnyH_ready (rs := [13]) (by kernel_rfl) (by simp) ?_
                  refine AllReadyH.cons rfl (fun K hK => ?_) ?_
                  · obtain ⟨y, hy, hpk⟩ := pickL (fun _ => True) [-1, (k : Int), v0] i3 (fun _ _ => trivial) i30 i31
                    have hcw := lit_at rl hpk
                    clear hpk
                    go_simp
                    clear hcw
                    refine hK.out _ _ trivial (fun hHeld => ?_)
                    clear hK K
                    try simp only [Act.put, List.getElem_toArray, List.getElem_cons_zero, List.getElem_cons_succ, List.setIfInBounds_toArray, List.set_cons_zero, List.set_cons_succ]
                    refine wpAnyH_take (i := 14) (v := ?_) rfl (by kernel_rfl) (by kernel_rfl) (by kernel_rfl) (fun _ _ _ h => h) (Or.inl ⟨by rfl, ?_⟩) (by assumption) ?_
                    rotate_left
                    · (intro wz hSw; (try dsimp only at hSw); go_simp; try with_reducible rfl)
                    simp only [Act.put, List.getElem_toArray, List.getElem_cons_zero, List.getElem_cons_succ, List.setIfInBounds_toArray, List.set_cons_zero, List.set_cons_succ]
                    refine wpAnyH_ready (rs := [15]) (by kernel_rfl) (by simp) ?_
                    refine AllReadyH.cons rfl (fun K hK => ?_) ?_
                    · have hxl : (ints o).length = k := by rw [ints_length]; exact HOL.out
                      have hx1 := o2.cell rfl t _ (List.getElem?_eq_getElem (by omega))
                      have z1 := o2.frozen rfl t
                      replace rl := rowSet rl ⟨g2, t, none⟩ (.int .i64 y) (by show _ ≠ g2; omega)
                      replace o2 := o2.set rfl t (.int .i64 y)
                      replace hr := rd_setc hr ⟨g2, t, none⟩ (.int .i64 y) (by show _ < g2; omega)
                      replace hF := fr_setd hF (p := ⟨g2, t, none⟩) (by show _ ≤ g2; omega) (.int .i64 y)
                      have s8 : u7.heap.size ≤ (u7.setCell ⟨g2, t, none⟩ (.int .i64 y)).heap.size := Nat.le_of_eq (World.size_setCell _ _ _).symm
                      rw [ints_set] at o2
                      go_simp
                      refine hK.out _ _ trivial (fun hHeld => ?_)
                      clear z1 hx1
                      generalize (u7.setCell ⟨g2, t, none⟩ (.int .i64 y)) = u8 at *
                      clear hK K
                      try simp only [Act.put, List.getElem_toArray, List.getElem_cons_zero, List.getElem_cons_succ, List.setIfInBounds_toArray, List.set_cons_zero, List.set_cons_succ]
                      refine wpAnyH_done (by kernel_rfl) ?_ _
                      refine NoPanic.normal ?_
                      go_wp2_with fail
                      go_ret
                      exact ⟨_, _, _, ((q4 + 1) + 1), rfl, o2.wide (by omega) (by omega), by omega, hr, hF⟩
                    exact AllReadyH.nil
                  exact AllReadyH.nil
                exact AllReadyH.nil
              exact AllReadyH.nil
            refine AllReadyH.cons rfl (fun K hK => ?_) ?_
            · have hn5 := below_new u4 (.cells #[.int .i64 (-1), .int .i64 (k : Int), .int .i64 v0] 3)
              replace o2 := o2.below hn5
              replace hr := hr.below hn5
              replace hF := fr_below hF hn5
              clear hn5
              have s5 : u4.heap.size < (u4.alloc (.cells #[.int .i64 (-1), .int .i64 (k : Int), .int .i64 v0] 3)).heap.size := Nat.lt_of_lt_of_eq (Nat.lt_succ_self _) (World.size_alloc _ _).symm
              have rl : (u4.alloc (.cells #[.int .i64 (-1), .int .i64 (k : Int), .int .i64 v0] 3)).heap[u4.heap.size]? = some (.cells #[.int .i64 (-1), .int .i64 (k : Int), .int .i64 v0] 3 (0, 0)) := by have q := heap_alloc_new u4 (.cells #[.int .i64 (-1), .int .i64 (k : Int), .int .i64 v0] 3); (try simp only [World.size_alloc, World.size_setCell] at q); exact q
              go_simp
              refine hK.out _ _ trivial (fun hHeld => ?_)
              generalize (u4.alloc (.cells #[.int .i64 (-1), .int .i64 (k : Int), .int .i64 v0] 3)) = u5 at *
              clear hK K
              try simp only [Act.put, List.getElem_toArray, List.getElem_cons_zero, List.getElem_cons_succ, List.setIfInBounds_toArray, List.set_cons_zero, List.set_cons_succ]
              refine wpAnyH_ready (rs := [4]) (by kernel_rfl) (by simp) ?_
              refine AllReadyH.cons rfl (fun K hK => ?_) ?_
              · go_simp
                refine (pick_any (R) (q4) ((k : Int)) _ hr (by omega)).mono ?_
                rintro e w6 ⟨i1, rfl, h6, q6, f6, e6⟩
                have s6 := f6.size
                clear hr
                have hr := q6
                clear q6
                replace rl := rowFr rl f6 (by omega)
                replace o2 := o2.fr f6 (by omega)
                replace hF := hF.trans f6
                clear f6
                obtain ⟨i10, i11⟩ : 0 ≤ i1 ∧ i1 < (k : Int) := by omega
                clear h6 e6
                obtain ⟨t, rfl⟩ := Int.eq_ofNat_of_zero_le i10
                have ht : t < k := by omega
                refine hK.out _ _ trivial (fun hHeld => ?_)
                clear hK K
                try simp only [Act.put, List.getElem_toArray, List.getElem_cons_zero, List.getElem_cons_succ, List.setIfInBounds_toArray, List.set_cons_zero, List.set_cons_succ]
                refine wpAnyH_ready (rs := [11]) (by kernel_rfl) (by simp) ?_
                refine AllReadyH.cons rfl (fun K hK => ?_) ?_
                · go_simp
                  refine (pick_any (R) ((q4 + 1)) (3) _ hr (by omega)).mono ?_
                  rintro e w7 ⟨i3, rfl, h7, q7, f7, e7⟩
                  have s7 := f7.size
                  clear hr
                  have hr := q7
                  clear q7
                  replace rl := rowFr rl f7 (by omega)
                  replace o2 := o2.fr f7 (by omega)
                  replace hF := hF.trans f7
                  clear f7
                  obtain ⟨i30, i31⟩ : 0 ≤ i3 ∧ i3 < 3 := by omega
                  clear h7 e7
                  refine hK.out _ _ trivial (fun hHeld => ?_)
                  clear hK K
                  try simp only [Act.put, List.getElem_toArray, List.getElem_cons_zero, List.getElem_cons_succ, List.setIfInBounds_toArray, List.set_cons_zero, List.set_cons_succ]
                  refine wpAnyH_take (i := 12) (v := ?_) rfl (by kernel_rfl) (by kernel_rfl) (by kernel_rfl) (fun _ _ _ h => h) (Or.inl ⟨by rfl, ?_⟩) (by assumption) ?_
                  rotate_left
                  · (intro wz hSw; (try dsimp only at hSw); go_simp; try with_reducible rfl)
                  simp only [Act.put, List.getElem_toArray, List.getElem_cons_zero, List.getElem_cons_succ, List.setIfInBounds_toArray, List.set_cons_zero, List.set_cons_succ]
                  refine wpAnyH_ready (rs := [13]) (by kernel_rfl) (by simp) ?_
                  refine AllReadyH.cons rfl (fun K hK => ?_) ?_
                  · obtain ⟨y, hy, hpk⟩ := pickL (fun _ => True) [-1, (k : Int), v0] i3 (fun _ _ => trivial) i30 i31
                    have hcw := lit_at rl hpk
                    clear hpk
                    go_simp
                    clear hcw
                    refine hK.out _ _ trivial (fun hHeld => ?_)
                    clear hK K
                    try simp only [Act.put, List.getElem_toArray, List.getElem_cons_zero, List.getElem_cons_succ, List.setIfInBounds_toArray, List.set_cons_zero, List.set_cons_succ]
                    refine wpAnyH_take (i := 14) (v := ?_) rfl (by kernel_rfl) (by kernel_rfl) (by kernel_rfl) (fun _ _ _ h => h) (Or.inl ⟨by rfl, ?_⟩) (by assumption) ?_
                    rotate_left
                    · (intro wz hSw; (try dsimp only at hSw); go_simp; try with_reducible rfl)
                    simp only [Act.put, List.getElem_toArray, List.getElem_cons_zero, List.getElem_cons_succ, List.setIfInBounds_toArray, List.set_cons_zero, List.set_cons_succ]
                    refine wpAnyH_ready (rs := [15]) (by kernel_rfl) (by simp) ?_
                    refine AllReadyH.cons rfl (fun K hK => ?_) ?_
                    · have hxl : (ints o).length = k := by rw [ints_length]; exact HOL.out
                      have hx1 := o2.cell rfl t _ (List.getElem?_eq_getElem (by omega))
                      have z1 := o2.frozen rfl t
                      replace rl := rowSet rl ⟨g2, t, none⟩ (.int .i64 y) (by show _ ≠ g2; omega)
                      replace o2 := o2.set rfl t (.int .i64 y)
                      replace hr := rd_setc hr ⟨g2, t, none⟩ (.int .i64 y) (by show _ < g2; omega)
                      replace hF := fr_setd hF (p := ⟨g2, t, none⟩) (by show _ ≤ g2; omega) (.int .i64 y)
                      have s8 : w7.heap.size ≤ (w7.setCell ⟨g2, t, none⟩ (.int .i64 y)).heap.size := Nat.le_of_eq (World.size_setCell _ _ _).symm
                      rw [ints_set] at o2
                      go_simp
                      refine hK.out _ _ trivial (fun hHeld => ?_)
                      clear z1 hx1
                      generalize (w7.setCell ⟨g2, t, none⟩ (.int .i64 y)) = u8 at *
                      clear hK K
                      try simp only [Act.put, List.getElem_toArray, List.getElem_cons_zero, List.getElem_cons_succ, List.setIfInBounds_toArray, List.set_cons_zero, List.set_cons_succ]
                      refine wpAnyH_done (by kernel_rfl) ?_ _
                      refine NoPanic.normal ?_
                      go_wp2_with fail
                      go_ret
                      exact ⟨_, _, _, ((q4 + 1) + 1), rfl, o2.wide (by omega) (by omega), by omega, hr, hF⟩
                    exact AllReadyH.nil
                  exact AllReadyH.nil
                exact AllReadyH.nil
              exact AllReadyH.nil
            exact AllReadyH.nil
          exact AllReadyH.nil
end Go.Proofs.Ythnebfcclkebeaa
