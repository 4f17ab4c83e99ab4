/-
  Walks: slices.Clone at lists of numbers.
-/
import Derived.Test.YthnebfcclkebeaaD3
namespace Go.Proofs.Ythnebfcclkebeaa
open Go.RowKit
theorem clone_any (A : Option Addr) (n c B : Nat) (xs : List Value) (w : World) (h : Sees w B 1 A n c xs) (h1 : ∀ u ∈ xs, u.oneCell' = true) (hB : B ≤ w.heap.size) (hn8 : n ≤ 17592186044416 / 1) :
    Calls Try.prog 50 #[.slice A n c] w (RetFresh w 3 1 n xs) := by
  obtain ⟨i0, hi, hz0, hz1, hz2⟩ := info_parts int_info
  have hc1 := h.cap
  have hc2 := h.big
  have hnil := fun (w : World) (n' c' : Nat) => Lib.run_eql_slice_nil (P := Try.prog) w 22 3 A n c n' c' Try.underlying22
  cases A with
  | none =>
    have hn : n = 0 := by
      rcases Nat.eq_zero_or_pos n with h0 | h0
      · exact h0
      · obtain ⟨b, o, e, _⟩ := h.at_ h0; cases e
    subst hn
    have hx : xs = [] := List.eq_nil_of_length_eq_zero (by have := h.len; omega)
    subst hx
    go_enter Try.func50, Try.ntmps50
    go_wp2
    go_ret
    exact ⟨_, _, rfl, Own.nil _ _ _ _ _, Below.refl _ _⟩
  | some ad =>
    have hown : Own (w.alloc (.cells #[] 3)) w.heap.size (w.heap.size + 1) 3 1 (some ⟨w.heap.size, 0, none⟩) 0 0 [] :=
      Own.made (by simp) (Nat.le_refl _) (by omega) (by simp) (Nat.le_refl _) (by omega)
    have hsee : Sees (w.alloc (.cells #[] 3)) B 1 (some ad) n c xs := h.below ((Below.refl B w).alloc hB _) (Nat.le_refl _)
    go_enter Try.func50, Try.ntmps50
    go_wp2_with (at_builtin; refine wpList_app _ rfl (.tmp 5) (.tmp 6) _ rfl 3 i0 (.int .i64 0) 1 8 Try.underlying22 hi hz0 hz1 hz2 rfl (by decide) w.heap.size (w.heap.size + 1) _ 0 0 [] rfl hown B (some ad) n c xs rfl hsee h1 (by omega) (by omega) (by simp) ?_; intro A2 c2 w2 hown2 hfr2)
    go_ret
    exact ⟨A2, c2, by simp, by simpa using hown2, Fr.below ((Below.refl _ _).alloc (Nat.le_refl _) _) hfr2 (Nat.le_refl _) (Nat.le_refl _)⟩
end Go.Proofs.Ythnebfcclkebeaa
