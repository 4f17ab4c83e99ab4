/-
  Walk: the law FnBatchValid returns true.
-/
import Derived.Deep.DeepCutAuto
import Derived.IntWalk
import Derived.Test.YthnebfcclkebeaaM10
import Derived.Test.YthnebfcclkebeaaM16
import Derived.Test.YthnebfcclkebeaaA
namespace Go.Proofs.Ythnebfcclkebeaa
open Go.RowKit
set_option linter.unusedSimpArgs false
set_option linter.unusedVariables false
set_option maxHeartbeats 4000000 in
theorem law_FnBatchValid (w : World) (A : Option Addr) (n c : Nat) (bs : List Int) (h : Sees w w.heap.size 1 A n c (byts bs)) (hb : ∀ v ∈ bs, 0 ≤ v ∧ v ≤ 255) :
    Calls Try.prog 7 #[.slice A n c] w (RetPure w (.bool true)) := by
  have hc1 := h.cap
  have hc2 := h.big
  by_cases hn1 : 1048576 < n
  · go_enter Try.func7, Try.ntmps7
    go_wp2_with fail
    go_ret
    exact ⟨rfl, Below.refl _ _⟩
  have hB : Below w.heap.size w w := Below.refl _ _
  go_enter Try.func7, Try.ntmps7
  go_wp2_with fail
  refine (drawBatchValid_any _ _ _ _ _ _ h (Nat.le_refl _) hb).mono ?_
  rintro e w2 ⟨Al, nl, cl, l, size, rfl, ol, hnl, hsz, b2⟩
  have s2 := b2.size
  replace hB := below_later hB b2 (Nat.le_refl _)
  clear b2
  clear h hb
  have hlc := ol.cap
  have hll := ol.sees.cmd
  obtain ⟨i0, hi0, hz0, hz1, hz2⟩ := info_parts cmd_info
  obtain ⟨ok, hletter⟩ : ∃ y, bval l size = y := ⟨_, rfl⟩
  have HK := Lib.hid hletter
  clear hletter
  go_wp2_with fail
  have q := implBatchValid_any _ _ _ _ l size _ ol.sees (by omega) (by omega)
  rw [HK.out] at q
  refine q.mono ?_
  clear q
  rintro e w3 ⟨rfl, b3⟩
  have s3 := b3.size
  replace ol := ol.below b3
  replace hB := below_later hB b3 (Nat.le_refl _)
  clear b3
  go_wp2_with fail
  have q := specBatchValid_any _ _ _ _ l size _ ol.sees (by omega) (by omega)
  rw [HK.out] at q
  refine q.mono ?_
  clear q
  rintro e w4 ⟨rfl, b4⟩
  have s4 := b4.size
  replace ol := ol.below b4
  replace hB := below_later hB b4 (Nat.le_refl _)
  clear b4
  cases ok
  · skip
    have e0 := newEmpty w4 55 4
    have L0 := ol.sees.below (below_new w4 (.cells #[] 55)) (by omega)
    have zA : (w4.alloc (.cells #[] 55)).heap.size = w4.heap.size + 1 := World.size_alloc _ _
    have B0 := below_later hB (below_new w4 (.cells #[] 55)) (Nat.le_refl _)
    have sB := hB.size
    go_wp2_with (first
      | (at_builtin; refine wpList_app _ rfl (.tmp 34) (.tmp 35) _ rfl 55 i0 (.agg #[.int .i64 0, .int .i64 0, .int .i64 0, .int .i64 0]) 4 32 Try.underlying29 hi0 hz0 hz1 hz2 rfl (by decide) w4.heap.size (w4.heap.size + 1) _ 0 0 [] rfl e0 _ _ _ _ _ rfl L0 (cmdC_one _) (by omega) (by omega) (by omega) ?_; intro A2 c2 w22 o2 f2; simp only [Nat.zero_add, List.nil_append] at o2; have p2 := o2.below (below_new w22 (.cells #[.int .i64 0, .int .i64 0, .int .i64 0, .int .i64 0] 55)); have q2 := (newC w22 0 0 0 0).sees; have s22 := f2.size; have z22 : (w22.alloc (.cells #[.int .i64 0, .int .i64 0, .int .i64 0, .int .i64 0] 55)).heap.size = w22.heap.size + 1 := World.size_alloc _ _; have B2 := below_later (f2.below B0 (by omega) (Nat.le_refl _)) (below_new w22 (.cells #[.int .i64 0, .int .i64 0, .int .i64 0, .int .i64 0] 55)) (Nat.le_refl _))
      | (at_builtin; refine wpList_app _ rfl (.tmp 36) (.tmp 38) _ rfl 55 i0 (.agg #[.int .i64 0, .int .i64 0, .int .i64 0, .int .i64 0]) 4 32 Try.underlying29 hi0 hz0 hz1 hz2 rfl (by decide) _ _ _ _ _ _ rfl p2 _ _ _ _ _ rfl q2 (cmdC_one _) (by omega) (by omega) (by omega) ?_; intro A4 c4 w24 o4 f4; rw [← cmdC_app] at o4; have s24 := f4.size; have B4 := f4.below B2 (by omega) (Nat.le_refl _)))
    have q := implBatchValid_any _ _ _ _ (l ++ [⟨0, 0, 0, 0⟩]) size _ o4.sees (Nat.le_refl _) (by omega)
    rw [bval_zero] at q
    refine q.mono ?_
    clear q
    rintro e w25 ⟨rfl, b25⟩
    replace hB := below_later B4 b25 (Nat.le_refl _)
    go_wp2_with fail
    refine (alive_any _).mono ?_
    rintro e w26 ⟨rfl, b26⟩
    replace hB := below_later hB b26 (Nat.le_refl _)
    go_wp2_with fail
    go_ret
    exact ⟨rfl, hB⟩
  · have hpre := bval_take l size (nl / 2) HK.out
    go_wp2_with fail
    have q := implBatchValid_any _ _ _ _ (l.take (nl / 2)) size _ (ol.sees.cmdPre (nl / 2) (by omega)) (by omega) (by omega)
    rw [hpre] at q
    refine q.mono ?_
    clear q
    rintro e w5 ⟨rfl, b5⟩
    have s5 := b5.size
    replace ol := ol.below b5
    replace hB := below_later hB b5 (Nat.le_refl _)
    clear b5
    have e0 := newEmpty w5 55 4
    have L0 := ol.sees.below (below_new w5 (.cells #[] 55)) (by omega)
    have zA : (w5.alloc (.cells #[] 55)).heap.size = w5.heap.size + 1 := World.size_alloc _ _
    have B0 := below_later hB (below_new w5 (.cells #[] 55)) (Nat.le_refl _)
    have sB := hB.size
    go_wp2_with (first
      | (at_builtin; refine wpList_app _ rfl (.tmp 34) (.tmp 35) _ rfl 55 i0 (.agg #[.int .i64 0, .int .i64 0, .int .i64 0, .int .i64 0]) 4 32 Try.underlying29 hi0 hz0 hz1 hz2 rfl (by decide) w5.heap.size (w5.heap.size + 1) _ 0 0 [] rfl e0 _ _ _ _ _ rfl L0 (cmdC_one _) (by omega) (by omega) (by omega) ?_; intro A2 c2 w22 o2 f2; simp only [Nat.zero_add, List.nil_append] at o2; have p2 := o2.below (below_new w22 (.cells #[.int .i64 0, .int .i64 0, .int .i64 0, .int .i64 0] 55)); have q2 := (newC w22 0 0 0 0).sees; have s22 := f2.size; have z22 : (w22.alloc (.cells #[.int .i64 0, .int .i64 0, .int .i64 0, .int .i64 0] 55)).heap.size = w22.heap.size + 1 := World.size_alloc _ _; have B2 := below_later (f2.below B0 (by omega) (Nat.le_refl _)) (below_new w22 (.cells #[.int .i64 0, .int .i64 0, .int .i64 0, .int .i64 0] 55)) (Nat.le_refl _))
      | (at_builtin; refine wpList_app _ rfl (.tmp 36) (.tmp 38) _ rfl 55 i0 (.agg #[.int .i64 0, .int .i64 0, .int .i64 0, .int .i64 0]) 4 32 Try.underlying29 hi0 hz0 hz1 hz2 rfl (by decide) _ _ _ _ _ _ rfl p2 _ _ _ _ _ rfl q2 (cmdC_one _) (by omega) (by omega) (by omega) ?_; intro A4 c4 w24 o4 f4; rw [← cmdC_app] at o4; have s24 := f4.size; have B4 := f4.below B2 (by omega) (Nat.le_refl _)))
    have q := implBatchValid_any _ _ _ _ (l ++ [⟨0, 0, 0, 0⟩]) size _ o4.sees (Nat.le_refl _) (by omega)
    rw [bval_zero] at q
    refine q.mono ?_
    clear q
    rintro e w25 ⟨rfl, b25⟩
    replace hB := below_later B4 b25 (Nat.le_refl _)
    go_wp2_with fail
    refine (alive_any _).mono ?_
    rintro e w26 ⟨rfl, b26⟩
    replace hB := below_later hB b26 (Nat.le_refl _)
    go_wp2_with fail
    go_ret
    exact ⟨rfl, hB⟩
end Go.Proofs.Ythnebfcclkebeaa
