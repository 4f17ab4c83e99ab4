/-
  Walk: the law FnOrderReads returns true.
-/
import Derived.Deep.DeepCutAuto
import Derived.IntWalk
import Derived.Test.YthnebfcclkebeaaM8
import Derived.Test.YthnebfcclkebeaaM9
import Derived.Test.YthnebfcclkebeaaM19
import Derived.Test.YthnebfcclkebeaaPlainO
import Derived.Test.YthnebfcclkebeaaA
namespace Go.Proofs.Ythnebfcclkebeaa
open Go.RowKit
set_option linter.unusedSimpArgs false
set_option linter.unusedVariables false
set_option maxHeartbeats 4000000 in
theorem law_FnOrderReads (w : World) (A : Option Addr) (n c : Nat) (bs : List Int) (h : Sees w w.heap.size 1 A n c (byts bs)) (hb : ∀ v ∈ bs, 0 ≤ v ∧ v ≤ 255) :
    Calls Try.prog 13 #[.slice A n c] w (RetPure w (.bool true)) := by
  have hc1 := h.cap
  have hc2 := h.big
  by_cases hn1 : 1048576 < n
  · go_enter Try.func13, Try.ntmps13
    go_wp2_with fail
    go_ret
    exact ⟨rfl, Below.refl _ _⟩
  have hB : Below w.heap.size w w := Below.refl _ _
  go_enter Try.func13, Try.ntmps13
  go_wp2_with fail
  refine (drawOrderSafe_any _ _ _ _ _ _ h (Nat.le_refl _) hb).mono ?_
  rintro e w2 ⟨Al, nl, cl, l, Ao, co, o, rfl, ⟨ol, hnl⟩, oo, b2⟩
  have s2 := b2.size
  replace hB := below_later hB b2 (Nat.le_refl _)
  clear b2
  clear h hb
  have hlc := ol.cap
  have hoc := oo.cap
  obtain ⟨i0, hi0, hz0, hz1, hz2⟩ := info_parts cmd_info
  obtain ⟨j0, hj0, hy0, hy1, hy2⟩ := info_parts int_info
  obtain ⟨ok, hletter⟩ : ∃ y, safeO l o = y := ⟨_, rfl⟩
  have HK := Lib.hid hletter
  clear hletter
  go_wp2_with fail
  have q := implOrderSafe_any _ _ _ _ _ _ _ _ (l) (o) _ (ol.sees) (oo.sees) (by omega) (by omega)
  rw [HK.out] at q
  refine q.mono ?_
  clear q
  rintro e w3 ⟨rfl, b3⟩
  have s3 := b3.size
  replace ol := ol.below b3
  replace oo := oo.below b3
  replace hB := below_later hB b3 (Nat.le_refl _)
  clear b3
  go_wp2_with fail
  have q := specOrderSafe_any _ _ _ _ _ _ _ _ (l) (o) _ (ol.sees) (oo.sees) (by omega) (by omega)
  rw [HK.out] at q
  refine q.mono ?_
  clear q
  rintro e w4 ⟨rfl, b4⟩
  have s4 := b4.size
  replace ol := ol.below b4
  replace oo := oo.below b4
  replace hB := below_later hB b4 (Nat.le_refl _)
  clear b4
  clear ol
  clear oo
  have e0 := newEmpty w4 55 4
  have z0 : (w4.alloc (.cells #[] 55)).heap.size = w4.heap.size + 1 := World.size_alloc _ _
  replace e0 := e0.wide (Nat.le_refl _) (show w4.heap.size + 1 ≤ (w4.alloc (.cells #[] 55)).heap.size by omega)
  have bn := below_new w4 (.cells #[] 55)
  have E0 := Lib.hid e0
  have BN := Lib.hid bn
  clear e0 bn
  go_upto_region 9 with fail
  go_loopw [6, 7] (fun t1 i wr => ∃ (k : Nat) (A2 : Option Addr) (c2 : Nat), k ≤ nl ∧ i = .int .i64 k ∧ t1 = .slice A2 k c2 ∧ Own wr w4.heap.size wr.heap.size 55 4 A2 k c2 (cmdC (rdsC k)) ∧ Below w4.heap.size w4 wr) (fun _ i _ => nl - (intOf i).toNat)
  case atStart => exact ⟨0, _, _, Nat.zero_le _, rfl, rfl, E0.out, BN.out⟩
  case round =>
    clear E0 BN
    obtain ⟨k, A2, c2, hk, rfl, rfl, o2, bW⟩ := hrel
    have sW := bW.size
    by_cases hlt : k < nl
    · have p1 := o2.below (below_new wr (.cells #[.int .i64 1, .int .i64 (k : Int), .int .i64 3, .int .i64 0] 55))
      have q1 := (newC wr 1 (k : Int) 3 0).sees
      have B1 := below_later bW (below_new wr (.cells #[.int .i64 1, .int .i64 (k : Int), .int .i64 3, .int .i64 0] 55)) (Nat.le_refl _)
      have S1 := B1.size
      clear o2
      have HI : Hid (cmdC (rdsC k) ++ cmdC [⟨1, (k : Int), 3, 0⟩] = cmdC (rdsC (k + 1))) := Lib.hid (by rw [rdsC_step, cmdC_app])
      generalize cmdC (rdsC k) = xs0 at *
      go_wp2_with (at_builtin; refine wpList_app _ rfl (.tmp 33) (.tmp 36) _ rfl 55 i0 (.agg #[.int .i64 0, .int .i64 0, .int .i64 0, .int .i64 0]) 4 32 Try.underlying29 hi0 hz0 hz1 hz2 rfl (by decide) _ _ _ _ _ _ rfl p1 _ _ _ _ _ rfl q1 (cmdC_one _) (by omega) (by omega) S1 ?_; intro A3 c3 w33 o3 f3; rw [HI.out] at o3; have B3 := f3.below B1 (Nat.le_refl _) (Nat.le_refl _))
      go_roundw
      case rel => exact ⟨k + 1, _, _, by omega, by go_num, rfl, o3, B3⟩
      case measure => simp [intOf]; omega
    · have hk2 : k = nl := by omega
      have or_ := o2
      rw [hk2] at or_
      clear o2
      replace hB := below_later hB bW (Nat.le_refl _)
      generalize wr = wo at *
      have hk3 : nl = k := hk2.symm
      subst hk3
      clear hk2
      have e0 := newEmpty wo 3 1
      have z1 : (wo.alloc (.cells #[] 3)).heap.size = wo.heap.size + 1 := World.size_alloc _ _
      replace e0 := e0.wide (Nat.le_refl _) (show wo.heap.size + 1 ≤ (wo.alloc (.cells #[] 3)).heap.size by omega)
      have bn := below_new wo (.cells #[] 3)
      have E0 := Lib.hid e0
      have BN := Lib.hid bn
      have e8 : IntKind.i64.wrap ((nl : Int) - 1) = (nl : Int) - 1 := IntWalk.i64_in _ (by omega)
      clear e0 bn bW
      go_upto_region 14 with fail
      go_loopw [8, 9] (fun t1 i wr => ∃ (m : Nat) (A2 : Option Addr) (c2 : Nat), m ≤ nl ∧ i = .int .i64 ((nl : Int) - 1 - m) ∧ t1 = .slice A2 m c2 ∧ Own wr wo.heap.size wr.heap.size 3 1 A2 m c2 (ints (downTo nl m)) ∧ Below wo.heap.size wo wr) (fun _ i _ => (intOf i + 1).toNat)
      case atStart => exact ⟨0, _, _, Nat.zero_le _, by simp, rfl, E0.out, BN.out⟩
      case round =>
        clear E0 BN e8
        obtain ⟨m, A3, c3, hm, rfl, rfl, o2, bX⟩ := hrel
        have sX := bX.size
        by_cases hlm : m < nl
        · have p1 := o2.below (below_new wr (.cells #[.int .i64 ((nl : Int) - 1 - m)] 3))
          have q1 := Sees.one wr 3 (.int .i64 ((nl : Int) - 1 - m))
          have B1 := below_later bX (below_new wr (.cells #[.int .i64 ((nl : Int) - 1 - m)] 3)) (Nat.le_refl _)
          have S1 := B1.size
          clear o2
          have HI : Hid (ints (downTo nl m) ++ [Value.int .i64 ((nl : Int) - 1 - m)] = ints (downTo nl (m + 1))) := Lib.hid (by rw [downTo_step, ints_app]; rfl)
          generalize ints (downTo nl m) = xs0 at *
          have e9 : IntKind.i64.wrap ((nl : Int) - 1 - m - 1) = (nl : Int) - 1 - m - 1 := IntWalk.i64_in _ (by omega)
          have g9 : (0 : Int) ≤ (nl : Int) - 1 - m := by omega
          go_wp2_with (at_builtin; refine wpList_app _ rfl (.tmp 46) (.tmp 48) _ rfl 3 j0 (.int .i64 0) 1 8 Try.underlying22 hj0 hy0 hy1 hy2 rfl (by decide) _ _ _ _ _ _ rfl p1 _ _ _ _ _ rfl q1 (one_int _) (by omega) (by omega) S1 ?_; intro A4 c4 w33 o3 f3; rw [HI.out] at o3; have B3 := f3.below B1 (Nat.le_refl _) (Nat.le_refl _))
          go_roundw
          case rel => exact ⟨m + 1, _, _, by omega, by first | go_num | (congr 1; omega), rfl, o3, B3⟩
          case measure => simp [intOf]; omega
        · have hm2 : m = nl := by omega
          rw [hm2] at o2
          have hm3 : nl = m := hm2.symm
          subst hm3
          clear hm2
          have g9 : ¬ (0 : Int) ≤ (nl : Int) - 1 - nl := by omega
          replace or_ := or_.below bX
          replace hB := below_later hB bX (Nat.le_refl _)
          by_cases hl12 : nl ≤ 12
          · have hs := rdsC_safe nl hl12
            have s1 := or_.sees
            have s2 := o2.sees
            go_wp2_with fail
            have q := implOrderSafe_any _ _ _ _ _ _ _ _ (rdsC nl) (downTo nl nl) _ (s1) (s2) (by omega) (by omega)
            rw [hs] at q
            refine q.mono ?_
            clear q
            rintro e w5 ⟨rfl, b5⟩
            have s5 := b5.size
            replace or_ := or_.below b5
            replace hB := below_later hB b5 (Nat.le_refl _)
            clear b5
            go_wp2_with fail
            refine (alive_any _).mono ?_
            rintro e w6 ⟨rfl, b6⟩
            have s6 := b6.size
            replace or_ := or_.below b6
            replace hB := below_later hB b6 (Nat.le_refl _)
            clear b6
            go_wp2_with fail
            go_ret
            exact ⟨rfl, hB⟩
          · skip
            go_wp2_with fail
            refine (alive_any _).mono ?_
            rintro e w5 ⟨rfl, b5⟩
            have s5 := b5.size
            replace or_ := or_.below b5
            replace hB := below_later hB b5 (Nat.le_refl _)
            clear b5
            go_wp2_with fail
            go_ret
            exact ⟨rfl, hB⟩
end Go.Proofs.Ythnebfcclkebeaa
