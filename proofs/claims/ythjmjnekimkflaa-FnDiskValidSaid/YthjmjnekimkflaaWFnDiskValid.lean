/-
  Walk: the law FnDiskValid returns true.
-/
import Derived.Test.YthjmjnekimkflaaA
import Derived.Test.YthjmjnekimkflaaP4
import Derived.Test.YthjmjnekimkflaaD5
namespace Go.Proofs.Ythjmjnekimkflaa
open Go.RowKit
theorem law_FnDiskValid (w : World) (A : Option Addr) (n c : Nat) (bs : List Int) (h : Sees w w.heap.size 1 A n c (byts bs)) (hb : ∀ v ∈ bs, 0 ≤ v ∧ v ≤ 255) :
    Calls Try.prog 6 #[.slice A n c] w (RetPure w (.bool true)) := by
  have hc1 := h.cap
  have hc2 := h.big
  by_cases hn : 1048576 < n
  · go_enter Try.func6, Try.ntmps6
    go_wp2_with fail
    go_ret
    exact ⟨rfl, Below.refl _ _⟩
  · go_enter Try.func6, Try.ntmps6
    go_wp2_with fail
    refine (drawDiskValid_any _ _ _ _ _ _ h (Nat.le_refl _) hb).mono ?_
    rintro e w1 ⟨A1, n1, c1, d, rfl, hown, hn1, hbel⟩
    obtain rfl := hown.sees.int
    have hc3 := hown.cap
    have hc4 := hown.big
    have hsee := hown.sees
    have hsz := hbel.size
    obtain ⟨i0, hi0, hz0, hz1, hz2⟩ := info_parts int_info
    have hpre := hsee.pre (d.length / 2) (by omega)
    rw [show (ints d).take (d.length / 2 * 1) = ints (d.take (d.length / 2)) by simp [ints, List.map_take]] at hpre
    have hown0 := empty_made w1 3 1
    have hsee0 := hsee.below ((Below.refl w1.heap.size w1).alloc (Nat.le_refl _) (.cells #[] 3)) (Nat.le_refl _)
    go_wp2_with fail
    refine (implDiskValid_any _ _ _ _ _ _ hsee).mono ?_
    rintro e w' ⟨rfl, rfl⟩
    go_wp2_with fail
    refine (specDiskValid_any _ _ _ _ _ _ hsee).mono ?_
    rintro e w' ⟨rfl, rfl⟩
    have hd256 := dval_256 d
    have fin : ∀ (w2 w4 : World) (o : Obj), Fr w1.heap.size (w1.heap.size + 1) (w1.alloc (.cells #[] 3)) w2 → Fr w1.heap.size w2.heap.size (w2.alloc o) w4 → Below w.heap.size w w4 := by
      intro w2 w4 o h2 h4
      have b2 := h2.below (below_new w1 (.cells #[] 3)) (Nat.le_refl _) (Nat.le_refl _)
      have b3 := below_later b2 (below_new w2 o) (Nat.le_refl _)
      exact below_later hbel (h4.below b3 (Nat.le_refl _) (Nat.le_refl _)) (Nat.le_refl _)
    cases hd : dval d with
    | true =>
      have hp := dval_take d (d.length / 2) hd
      have HD := Lib.hid hd
      clear hd
      go_wp2_with fail
      refine (implDiskValid_any _ _ _ _ _ _ hpre).mono ?_
      rintro e w' ⟨rfl, rfl⟩
      go_wp2_with (first
        | (at_builtin; refine wpList_app _ rfl (.tmp 27) (.tmp 28) _ rfl 3 i0 (.int .i64 0) 1 8 Try.underlying23 hi0 hz0 hz1 hz2 rfl (by decide) w1.heap.size (w1.heap.size + 1) _ 0 0 [] rfl hown0 w1.heap.size _ _ _ _ rfl hsee0 (ints_one _) (by omega) (by omega) (by simp) ?_; intro A2 c2 w2 hown2 hfr2; simp only [Nat.zero_add, List.nil_append] at hown2; have hown2' := hown2.below (below_new w2 (.cells #[.int .i64 256] 3)))
        | (at_builtin; refine wpList_app _ rfl (.tmp 29) (.tmp 30) _ rfl 3 i0 (.int .i64 0) 1 8 Try.underlying23 hi0 hz0 hz1 hz2 rfl (by decide) w1.heap.size w2.heap.size A2 d.length c2 (ints d) rfl hown2' _ _ _ _ _ rfl (Sees.one w2 3 (.int .i64 256)) (one_int 256) (by omega) (by omega) (by have := hfr2.size; simp at this ⊢; omega) ?_; intro A4 c4 w4 hown4 hfr4; have hsee4 : Sees w4 w4.heap.size 1 A4 (d.length + 1) c4 (ints (d ++ [256])) := by rw [show ints (d ++ [256]) = ints d ++ [.int .i64 256] by simp [ints]]; exact hown4.sees))
      refine (implDiskValid_any _ _ _ _ _ _ hsee4).mono ?_
      rintro e w' ⟨rfl, rfl⟩
      go_wp2_with fail
      refine (alive_any _).mono ?_
      rintro e w5 ⟨rfl, hb5⟩
      go_wp2_with fail
      go_ret
      exact ⟨rfl, below_later (fin _ _ _ hfr2 hfr4) hb5 (Nat.le_refl _)⟩
    | false =>
      have HD := Lib.hid hd
      clear hd
      go_wp2_with (first
        | (at_builtin; refine wpList_app _ rfl (.tmp 27) (.tmp 28) _ rfl 3 i0 (.int .i64 0) 1 8 Try.underlying23 hi0 hz0 hz1 hz2 rfl (by decide) w1.heap.size (w1.heap.size + 1) _ 0 0 [] rfl hown0 w1.heap.size _ _ _ _ rfl hsee0 (ints_one _) (by omega) (by omega) (by simp) ?_; intro A2 c2 w2 hown2 hfr2; simp only [Nat.zero_add, List.nil_append] at hown2; have hown2' := hown2.below (below_new w2 (.cells #[.int .i64 256] 3)))
        | (at_builtin; refine wpList_app _ rfl (.tmp 29) (.tmp 30) _ rfl 3 i0 (.int .i64 0) 1 8 Try.underlying23 hi0 hz0 hz1 hz2 rfl (by decide) w1.heap.size w2.heap.size A2 d.length c2 (ints d) rfl hown2' _ _ _ _ _ rfl (Sees.one w2 3 (.int .i64 256)) (one_int 256) (by omega) (by omega) (by have := hfr2.size; simp at this ⊢; omega) ?_; intro A4 c4 w4 hown4 hfr4; have hsee4 : Sees w4 w4.heap.size 1 A4 (d.length + 1) c4 (ints (d ++ [256])) := by rw [show ints (d ++ [256]) = ints d ++ [.int .i64 256] by simp [ints]]; exact hown4.sees))
      refine (implDiskValid_any _ _ _ _ _ _ hsee4).mono ?_
      rintro e w' ⟨rfl, rfl⟩
      go_wp2_with fail
      refine (alive_any _).mono ?_
      rintro e w5 ⟨rfl, hb5⟩
      go_wp2_with fail
      go_ret
      exact ⟨rfl, below_later (fin _ _ _ hfr2 hfr4) hb5 (Nat.le_refl _)⟩
end Go.Proofs.Ythjmjnekimkflaa
