/-
  Walks: the copy of a list of numbers, the test whether two are equal, the marks that a law writes into one and looks for again; slices.Clone.
-/
import Derived.Test.YtnhjooikeofkkaaD1
import Derived.Deep.OwnRows
namespace Go.Proofs.Ytnhjooikeofkkaa
open Go.RowKit

theorem int_info : (Try.prog.info? 3).map (fun i => (i.zero, i.size, i.bytes)) = some (some (.int .i64 0), 1, 8) := by kernel_rfl
theorem sameInts_any (A A' : Option Addr) (n c n' c' B B' : Nat) (x y : List Int) (w : World) (h : Sees w B 1 A n c (ints x)) (h' : Sees w B' 1 A' n' c' (ints y)) :
    Calls Try.prog 6 #[.slice A n c, .slice A' n' c'] w (RetPure w (.bool (decide (x = y)))) := by
  have hn := h.int
  have hn' := h'.int
  have hc1 := h.cap
  have hc2 := h.big
  have hc3 := h'.cap
  have hc4 := h'.big
  by_cases hnn : n = n'
  case neg =>
    have hd : decide (x = y) = false := by rw [decide_eq_false_iff_not]; rintro rfl; omega
    rw [hd]
    clear hd hn hn'
    go_enter Try.func6, Try.ntmps6
    go_wp2
    go_ret
    exact ⟨rfl, Below.refl _ _⟩
  case pos =>
  subst hnn
  have HN : Hid (x.length = n ∧ y.length = n) := Lib.hid ⟨hn, hn'⟩
  clear hn hn'
  go_enter Try.func6, Try.ntmps6
  go_wp2
  go_loopw [5] (fun i wr => ∃ (k q : Nat), k ≤ n ∧ i = .int .i64 k ∧ Hid (x.take k = y.take k) ∧ wr = w.drewN q) (fun i _ => n - (intOf i).toNat)
  case atStart => exact ⟨0, 0, Nat.zero_le _, rfl, rfl, rfl⟩
  case round =>
    obtain ⟨k, q, hk, rfl, hrel, rfl⟩ := hrel
    by_cases hlt : k < n
    · have hkx : k < x.length := by rw [HN.out.1]; exact hlt
      have hky : k < y.length := by rw [HN.out.2]; exact hlt
      obtain ⟨b, o, rfl, _, hcell⟩ := h.int_at (by omega)
      obtain ⟨b', o', rfl, _, hcell'⟩ := h'.int_at (by omega)
      have hx := hcell k hkx
      have hy := hcell' k hky
      clear hcell hcell'
      have i1 : (0 : Int) ≤ (k : Int) := by omega
      have i2 : (k : Int) < (n : Int) := by omega
      by_cases he : x[k] = y[k]
      · have hst := Lib.hid (take_eq_step x y k hkx hky hrel.out he)
        rw [← he] at hy
        clear he
        generalize x[k] = v at hx hy
        go_wp2_with fail
        go_quiet (fail)
        go_wp2
        go_roundw
        case rel => exact ⟨k + 1, _, by omega, by go_num, hst, rfl⟩
        case measure => simp [intOf]; omega
      · have hst := Lib.hid (get_ne x y k hkx hky he)
        have hb : (x[k] != y[k]) = true := by simpa using he
        generalize x[k] = v at hx hb
        generalize y[k] = u at hy hb
        clear he
        go_wp2_with fail
        go_quiet (fail)
        go_wp2
        go_ret
        exact ⟨ret_bool hst.out, below_drewN (below_drewN (Below.refl _ _) _) _⟩
    · go_wp2
      go_ret
      exact ⟨ret_bool (take_eq_end x y k (by rw [HN.out.1]; omega) (by rw [HN.out.2]; omega) hrel.out), below_drewN (Below.refl _ _) _⟩

theorem sameInts_t (A A' : Option Addr) (n c n' c' B B' : Nat) (x : List Int) (w : World) (h : Sees w B 1 A n c (ints x)) (h' : Sees w B' 1 A' n' c' (ints x)) :
    Calls Try.prog 6 #[.slice A n c, .slice A' n' c'] w (RetPure w (.bool true)) := by
  have := sameInts_any A A' n c n' c' B B' x x w h h'
  rw [decide_eq_true rfl] at this
  exact this
theorem sameInts_e (A A' : Option Addr) (n c n' c' B B' : Nat) (x y : List Int) (w : World) (h : Sees w B 1 A n c (ints x)) (h' : Sees w B' 1 A' n' c' (ints y)) (e : Hid (x = y)) :
    Calls Try.prog 6 #[.slice A n c, .slice A' n' c'] w (RetPure w (.bool true)) := by
  have := sameInts_any A A' n c n' c' B B' x y w h h'
  rw [decide_eq_true e.out] at this
  exact this
/-- The call writes the numbers from k on into the list, and returns the number behind the last. -/
def RetMark (w : World) (lo hi : Nat) (e : TypeId) (s : Nat) (A : Option Addr) (n c : Nat) (xs : List Value) (m : Int) (en : Ending) (w' : World) : Prop :=
  en = .returned (.int .i64 m) ∧ Own w' lo hi e s A n c xs ∧ Fr lo hi w w' ∧ w'.heap.size = w.heap.size
end Go.Proofs.Ytnhjooikeofkkaa
