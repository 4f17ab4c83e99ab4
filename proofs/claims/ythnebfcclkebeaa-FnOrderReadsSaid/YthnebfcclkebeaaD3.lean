/-
  Walks: the copy of a list of numbers, the test whether two are equal, the marks that a law writes into one and looks for again; slices.Clone.
-/
import Derived.Test.YthnebfcclkebeaaD1
import Derived.Deep.OwnRows
namespace Go.Proofs.Ythnebfcclkebeaa
open Go.RowKit

theorem int_info : (Try.prog.info? 3).map (fun i => (i.zero, i.size, i.bytes)) = some (some (.int .i64 0), 1, 8) := by kernel_rfl
theorem toIntS_any (A : Option Addr) (n c B : Nat) (d : List Int) (w : World) (h : Sees w B 1 A n c (ints d)) (hB : B ≤ w.heap.size) (hn8 : n ≤ 17592186044416) :
    Calls Try.prog 17 #[.slice A n c] w (RetFresh w 3 1 n (ints d)) := by
  have hn := h.int
  have hc1 := h.cap
  have HN : Hid (d.length = n) := Lib.hid hn
  clear hn
  have hmk := run_make_row' (P := Try.prog) 22 3 (.int .i64 0) 8 Try.underlying22 int_info rfl .i64 .i64 n (by omega) (by omega)
  go_enter Try.func17, Try.ntmps17
  go_wp2
  clear hmk
  go_loopw [4] (fun i wr => ∃ (k : Nat) (cur : Array Value), k ≤ n ∧ i = .int .i64 k ∧ Hid (cur.size = n ∧ cur.toList.take k = ints (d.take k)) ∧ wr = w.alloc (.cells cur 3)) (fun i _ => n - (intOf i).toNat)
  case atStart => exact ⟨0, _, Nat.zero_le _, rfl, ⟨by simp [size_madeCells], rfl⟩, rfl⟩
  case round =>
    obtain ⟨k, cur, hk, rfl, hrel, rfl⟩ := hrel
    by_cases hlt : k < n
    · have hkd : k < d.length := by rw [HN.out]; exact hlt
      have hkc : k < cur.size := by rw [hrel.out.1]; exact hlt
      obtain ⟨b, o, rfl, hbB, hcell⟩ := h.int_at (by omega)
      have hx : (w.alloc (.cells cur 3)).cell? ⟨b, o + k, none⟩ = some (.int .i64 d[k]) := (World.cell?_alloc_lt w _ _ (by show b < w.heap.size; omega)).trans (hcell k hkd)
      have hcur : cur[k]? = some cur[k] := Array.getElem?_eq_getElem hkc
      have hst : Hid ((cur.setIfInBounds k (.int .i64 d[k])).size = n ∧ (cur.setIfInBounds k (.int .i64 d[k])).toList.take (k + 1) = ints (d.take (k + 1))) :=
        ⟨by rw [Array.size_setIfInBounds]; exact hrel.out.1, by rw [Array.toList_setIfInBounds, set_take _ _ _ (by simpa using hkc), ints_take d k hkd, hrel.out.2]⟩
      clear hcell
      go_wp2
      go_roundw
      case rel => exact ⟨k + 1, _, by omega, by go_num, hst, rfl⟩
      case measure => simp [intOf]; omega
    · have hcur := hrel.out
      have : k = n := by omega
      subst this
      rw [List.take_of_length_le (by simp; omega), List.take_of_length_le (by rw [HN.out]; exact Nat.le_refl _)] at hcur
      have H := Lib.hid hcur
      clear hcur hrel
      go_wp2
      go_ret
      exact ⟨_, _, rfl, Own.made (by rw [H.out.1, Nat.mul_one]) (Nat.le_refl _) (by omega) (by rw [List.take_of_length_le (by simp [H.out.1])]; exact H.out.2) (Nat.le_refl _) (by rw [World.size_alloc]; omega), (Below.refl _ _).alloc (Nat.le_refl _) _⟩

theorem eqIntS_any (A A' : Option Addr) (n c n' c' B B' : Nat) (x y : List Int) (w : World) (h : Sees w B 1 A n c (ints x)) (h' : Sees w B' 1 A' n' c' (ints y)) :
    Calls Try.prog 20 #[.slice A n c, .slice A' n' c'] w (RetPure w (.bool (decide (x = y)))) := by
  have hn := h.int
  have hn' := h'.int
  have hc1 := h.cap
  have hc2 := h.big
  have hc3 := h'.cap
  have hc4 := h'.big
  by_cases hnn : n = n'
  case neg =>
    have hd : decide (x = y) = false := by rw [decide_eq_false_iff_not]; rintro rfl; omega
    rw [hd]
    clear hd hn hn'
    go_enter Try.func20, Try.ntmps20
    go_wp2
    go_ret
    exact ⟨rfl, Below.refl _ _⟩
  case pos =>
  subst hnn
  have HN : Hid (x.length = n ∧ y.length = n) := Lib.hid ⟨hn, hn'⟩
  clear hn hn'
  go_enter Try.func20, Try.ntmps20
  go_wp2
  go_loopw [5] (fun i wr => ∃ (k q : Nat), k ≤ n ∧ i = .int .i64 k ∧ Hid (x.take k = y.take k) ∧ wr = w.drewN q) (fun i _ => n - (intOf i).toNat)
  case atStart => exact ⟨0, 0, Nat.zero_le _, rfl, rfl, rfl⟩
  case round =>
    obtain ⟨k, q, hk, rfl, hrel, rfl⟩ := hrel
    by_cases hlt : k < n
    · have hkx : k < x.length := by rw [HN.out.1]; exact hlt
      have hky : k < y.length := by rw [HN.out.2]; exact hlt
      obtain ⟨b, o, rfl, _, hcell⟩ := h.int_at (by omega)
      obtain ⟨b', o', rfl, _, hcell'⟩ := h'.int_at (by omega)
      have hx := hcell k hkx
      have hy := hcell' k hky
      clear hcell hcell'
      have i1 : (0 : Int) ≤ (k : Int) := by omega
      have i2 : (k : Int) < (n : Int) := by omega
      by_cases he : x[k] = y[k]
      · have hst := Lib.hid (take_eq_step x y k hkx hky hrel.out he)
        rw [← he] at hy
        clear he
        generalize x[k] = v at hx hy
        go_wp2_with fail
        go_quiet (fail)
        go_wp2
        go_roundw
        case rel => exact ⟨k + 1, _, by omega, by go_num, hst, rfl⟩
        case measure => simp [intOf]; omega
      · have hst := Lib.hid (get_ne x y k hkx hky he)
        have hb : (x[k] != y[k]) = true := by simpa using he
        generalize x[k] = v at hx hb
        generalize y[k] = u at hy hb
        clear he
        go_wp2_with fail
        go_quiet (fail)
        go_wp2
        go_ret
        exact ⟨ret_bool hst.out, below_drewN (below_drewN (Below.refl _ _) _) _⟩
    · go_wp2
      go_ret
      exact ⟨ret_bool (take_eq_end x y k (by rw [HN.out.1]; omega) (by rw [HN.out.2]; omega) hrel.out), below_drewN (Below.refl _ _) _⟩

theorem sameInts_any (A A' : Option Addr) (n c n' c' B B' : Nat) (x y : List Int) (w : World) (h : Sees w B 1 A n c (ints x)) (h' : Sees w B' 1 A' n' c' (ints y)) :
    Calls Try.prog 29 #[.slice A n c, .slice A' n' c'] w (RetPure w (.bool (decide (x = y)))) := by
  have hn := h.int
  have hn' := h'.int
  have hc1 := h.cap
  have hc2 := h.big
  have hc3 := h'.cap
  have hc4 := h'.big
  by_cases hnn : n = n'
  case neg =>
    have hd : decide (x = y) = false := by rw [decide_eq_false_iff_not]; rintro rfl; omega
    rw [hd]
    clear hd hn hn'
    go_enter Try.func29, Try.ntmps29
    go_wp2
    go_ret
    exact ⟨rfl, Below.refl _ _⟩
  case pos =>
  subst hnn
  have HN : Hid (x.length = n ∧ y.length = n) := Lib.hid ⟨hn, hn'⟩
  clear hn hn'
  go_enter Try.func29, Try.ntmps29
  go_wp2
  go_loopw [5] (fun i wr => ∃ (k q : Nat), k ≤ n ∧ i = .int .i64 k ∧ Hid (x.take k = y.take k) ∧ wr = w.drewN q) (fun i _ => n - (intOf i).toNat)
  case atStart => exact ⟨0, 0, Nat.zero_le _, rfl, rfl, rfl⟩
  case round =>
    obtain ⟨k, q, hk, rfl, hrel, rfl⟩ := hrel
    by_cases hlt : k < n
    · have hkx : k < x.length := by rw [HN.out.1]; exact hlt
      have hky : k < y.length := by rw [HN.out.2]; exact hlt
      obtain ⟨b, o, rfl, _, hcell⟩ := h.int_at (by omega)
      obtain ⟨b', o', rfl, _, hcell'⟩ := h'.int_at (by omega)
      have hx := hcell k hkx
      have hy := hcell' k hky
      clear hcell hcell'
      have i1 : (0 : Int) ≤ (k : Int) := by omega
      have i2 : (k : Int) < (n : Int) := by omega
      by_cases he : x[k] = y[k]
      · have hst := Lib.hid (take_eq_step x y k hkx hky hrel.out he)
        rw [← he] at hy
        clear he
        generalize x[k] = v at hx hy
        go_wp2_with fail
        go_quiet (fail)
        go_wp2
        go_roundw
        case rel => exact ⟨k + 1, _, by omega, by go_num, hst, rfl⟩
        case measure => simp [intOf]; omega
      · have hst := Lib.hid (get_ne x y k hkx hky he)
        have hb : (x[k] != y[k]) = true := by simpa using he
        generalize x[k] = v at hx hb
        generalize y[k] = u at hy hb
        clear he
        go_wp2_with fail
        go_quiet (fail)
        go_wp2
        go_ret
        exact ⟨ret_bool hst.out, below_drewN (below_drewN (Below.refl _ _) _) _⟩
    · go_wp2
      go_ret
      exact ⟨ret_bool (take_eq_end x y k (by rw [HN.out.1]; omega) (by rw [HN.out.2]; omega) hrel.out), below_drewN (Below.refl _ _) _⟩

theorem eqIntS_t (A A' : Option Addr) (n c n' c' B B' : Nat) (x : List Int) (w : World) (h : Sees w B 1 A n c (ints x)) (h' : Sees w B' 1 A' n' c' (ints x)) :
    Calls Try.prog 20 #[.slice A n c, .slice A' n' c'] w (RetPure w (.bool true)) := by
  have := eqIntS_any A A' n c n' c' B B' x x w h h'
  rw [decide_eq_true rfl] at this
  exact this
theorem sameInts_t (A A' : Option Addr) (n c n' c' B B' : Nat) (x : List Int) (w : World) (h : Sees w B 1 A n c (ints x)) (h' : Sees w B' 1 A' n' c' (ints x)) :
    Calls Try.prog 29 #[.slice A n c, .slice A' n' c'] w (RetPure w (.bool true)) := by
  have := sameInts_any A A' n c n' c' B B' x x w h h'
  rw [decide_eq_true rfl] at this
  exact this
theorem eqIntS_e (A A' : Option Addr) (n c n' c' B B' : Nat) (x y : List Int) (w : World) (h : Sees w B 1 A n c (ints x)) (h' : Sees w B' 1 A' n' c' (ints y)) (e : Hid (x = y)) :
    Calls Try.prog 20 #[.slice A n c, .slice A' n' c'] w (RetPure w (.bool true)) := by
  have := eqIntS_any A A' n c n' c' B B' x y w h h'
  rw [decide_eq_true e.out] at this
  exact this
theorem sameInts_e (A A' : Option Addr) (n c n' c' B B' : Nat) (x y : List Int) (w : World) (h : Sees w B 1 A n c (ints x)) (h' : Sees w B' 1 A' n' c' (ints y)) (e : Hid (x = y)) :
    Calls Try.prog 29 #[.slice A n c, .slice A' n' c'] w (RetPure w (.bool true)) := by
  have := sameInts_any A A' n c n' c' B B' x y w h h'
  rw [decide_eq_true e.out] at this
  exact this
/-- The call writes the numbers from k on into the list, and returns the number behind the last. -/
def RetMark (w : World) (lo hi : Nat) (e : TypeId) (s : Nat) (A : Option Addr) (n c : Nat) (xs : List Value) (m : Int) (en : Ending) (w' : World) : Prop :=
  en = .returned (.int .i64 m) ∧ Own w' lo hi e s A n c xs ∧ Fr lo hi w w' ∧ w'.heap.size = w.heap.size
theorem markIntS_any (A : Option Addr) (n c lo hi : Nat) (d : List Int) (k0 : Int) (w : World) (h : Own w lo hi 3 1 A n c (ints d)) (hk0 : 0 ≤ k0) (hk1 : k0 + n ≤ 9223372036854775807) :
    Calls Try.prog 23 #[.slice A n c, .int .i64 k0] w (RetMark w lo hi 3 1 A n c (ints (upfrom k0 n)) (k0 + n)) := by
  have hn := h.sees.int
  have hc1 := h.cap
  have hc2 := h.big
  have HN : Hid (d.length = n) := Lib.hid hn
  clear hn
  go_enter Try.func23, Try.ntmps23
  go_wp2
  go_loopw [1, 5] (fun t i wr => ∃ (k : Nat) (xs : List Value), k ≤ n ∧ i = .int .i64 k ∧ t = .int .i64 (k0 + k) ∧ Own wr lo hi 3 1 A n c xs ∧ Hid (xs.take k = (ints (upfrom k0 n)).take k) ∧ Fr lo hi w wr ∧ Hid (wr.heap.size = w.heap.size)) (fun _ i _ => n - (intOf i).toNat)
  case atStart => exact ⟨0, _, Nat.zero_le _, rfl, by simp, h, rfl, Fr.refl _ _ _, rfl⟩
  case round =>
    obtain ⟨k, xs, hk, rfl, rfl, hown, hrel, hfr, hsz⟩ := hrel
    by_cases hlt : k < n
    · obtain ⟨g, rfl, hg1, hg2, hg3⟩ := hown.head (by omega)
      have hxl : k < xs.length := by have := hown.len; omega
      have hc := hown.cell rfl k _ (List.getElem?_eq_getElem hxl)
      have hf := hown.frozen rfl k
      have hown' := hown.set rfl k (.int .i64 (k0 + k))
      have hfr' := hfr.set hg1 hg2 k (.int .i64 (k0 + k))
      have hsz' : Hid ((wr.setCell ⟨g, k, none⟩ (.int .i64 (k0 + k))).heap.size = w.heap.size) := by have := hsz.out; show _ = _; rw [World.size_setCell]; exact this
      have hst : Hid ((xs.set k (.int .i64 (k0 + k))).take (k + 1) = (ints (upfrom k0 n)).take (k + 1)) := by
        have hu : k < (ints (upfrom k0 n)).length := by rw [ints_length, upfrom_length]; exact hlt
        show _ = _
        rw [set_take _ _ _ hxl, hrel.out, List.take_succ_eq_append_getElem hu]
        simp [ints, upfrom]
      clear hown hfr hsz hrel
      go_wp2
      go_roundw
      case rel => exact ⟨k + 1, _, by omega, by go_num, by go_num, hown', hst, hfr', hsz'⟩
      case measure => simp [intOf]; omega
    · have : k = n := by omega
      subst this
      have hxs := hrel.out
      rw [List.take_of_length_le (by rw [hown.len]; omega), List.take_of_length_le (by rw [ints_length, upfrom_length]; exact Nat.le_refl _)] at hxs
      subst hxs
      go_wp2
      go_ret
      exact ⟨rfl, hown, hfr, hsz.out⟩
theorem heldIntS_any (A : Option Addr) (n c B : Nat) (k0 : Int) (w : World) (h : Sees w B 1 A n c (ints (upfrom k0 n))) (hk0 : 0 ≤ k0) (hk1 : k0 + n ≤ 9223372036854775807) :
    Calls Try.prog 26 #[.slice A n c, .int .i64 k0] w fun e w' => e = .returned (.int .i64 (k0 + n)) ∧ w = w' := by
  have hc1 := h.cap
  have hc2 := h.big
  go_enter Try.func26, Try.ntmps26
  go_wp2
  go_loop [1, 5] (fun t i => ∃ k : Nat, k ≤ n ∧ i = .int .i64 k ∧ t = .int .i64 (k0 + k)) (fun _ i => n - (intOf i).toNat)
  case atStart => exact ⟨0, Nat.zero_le _, rfl, by simp⟩
  case round =>
    obtain ⟨k, hk, rfl, rfl⟩ := hrel
    by_cases hlt : k < n
    · obtain ⟨b, o, rfl, _, hcell⟩ := h.int_at (by omega)
      have hx := hcell k (by rw [upfrom_length]; exact hlt)
      rw [upfrom_get] at hx
      clear hcell
      go_wp2
      go_round
      case rel => exact ⟨k + 1, by omega, by go_num, by go_num⟩
      case measure => simp [intOf]; omega
    · have : k = n := by omega
      subst this
      go_wp2
      go_ret
      exact ⟨rfl, rfl⟩
end Go.Proofs.Ythnebfcclkebeaa
