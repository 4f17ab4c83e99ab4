/-
  More words for slices of commands that are cut, and for rows behind an append.
-/
import Derived.Test.YthnebfcclkebeaaM13
import Derived.Test.YthnebfcclkebeaaM10
namespace Go.Proofs.Ythnebfcclkebeaa
open Go.RowKit
set_option linter.unusedSimpArgs false
set_option linter.unusedVariables false
theorem cmdC_sub (l : List Cmd) (i m : Nat) : ((cmdC l).drop (i * 4)).take (m * 4) = cmdC ((l.drop i).take m) := by
  unfold cmdC
  rw [fm_drop ccel4, fm_take ccel4]
theorem Sees.cmdTail {w : World} {B n c : Nat} {A : Option Addr} {l : List Cmd} (h : Sees w B 4 A n c (cmdC l)) (i : Nat) (hi : i ≤ n) (A' : Option Addr) (hA : c ≠ i → A' = Option.map (fun x => x.add (i * 4)) A) : Sees w B 4 A' (n - i) (c - i) (cmdC (l.drop i)) := by
  have hl := h.cmd
  have hc := h.cap
  have hb := h.big
  by_cases hci : c = i
  · have hn : n - i = 0 := by omega
    rw [hn, show l.drop i = [] from List.drop_eq_nil_of_le (by omega)]
    exact Sees.none_ _ _ _ _ (by omega) _
  · have hs := h.sub i (n - i) (by omega)
    rw [cmdC_sub, List.take_of_length_le (by rw [List.length_drop]; omega)] at hs
    rw [hA hci]
    exact hs
theorem RowsSee.frs {w w' : World} {B lo hi : Nat} {vs : List Value} {xs : List (List Int)} (h : RowsSee w B vs xs) (f : Fr lo hi w w') (h1 : B ≤ lo) (h2 : B ≤ w.heap.size) : RowsSee w' B vs xs :=
  ⟨h.1, fun k x hx => by obtain ⟨A, n, c, h3, h4⟩ := h.2 k x hx; exact ⟨A, n, c, h3, h4.fr f h1 h2⟩⟩
end Go.Proofs.Ythnebfcclkebeaa
