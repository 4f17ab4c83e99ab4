/-
  Walks: lists of bools: the copy, the test whether two are equal, the marks, slices.Clone.
-/
import Derived.Test.YtophfpdcbkhifaaD1
import Derived.Deep.OwnRows
namespace Go.Proofs.Ytophfpdcbkhifaa
open Go.RowKit

theorem bools_length (l : List Bool) : (bools l).length = l.length := by simp [bools]
theorem bools_get (l : List Bool) (k : Nat) (h : k < l.length) : (bools l)[k]? = some (.bool l[k]) := by simp [bools, h]
theorem bools_set (d : List Bool) (j : Nat) (u : Bool) : (bools d).set j (.bool u) = bools (d.set j u) := by simp [bools, List.map_set]
theorem bools_take (d : List Bool) (k : Nat) (h : k < d.length) : bools (d.take (k + 1)) = bools (d.take k) ++ [.bool d[k]] := by
  rw [List.take_succ_eq_append_getElem h]; unfold bools; rw [List.map_append]; rfl
theorem one_bool (v : Bool) : ∀ u ∈ [Value.bool v], u.oneCell' = true := by intro u hu; simp at hu; subst hu; rfl
theorem Sees.bool {w : World} {B n c : Nat} {A : Option Addr} {d : List Bool} (h : Sees w B 1 A n c (bools d)) : d.length = n := by
  have := h.len; rw [bools_length] at this; omega
theorem Sees.bool_at {w : World} {B n c : Nat} {A : Option Addr} {d : List Bool} (h : Sees w B 1 A n c (bools d)) (hn : 0 < n) :
    ∃ b o, A = some ⟨b, o, none⟩ ∧ b < B ∧ ∀ k (hk : k < d.length), w.cell? ⟨b, o + k, none⟩ = some (.bool d[k]) := by
  obtain ⟨b, o, e, hb, hc⟩ := h.at_ hn
  exact ⟨b, o, e, hb, fun k hk => hc k _ (bools_get d k hk)⟩
theorem take_eq_stepB (x y : List Bool) (k : Nat) (hx : k < x.length) (hy : k < y.length) (h : x.take k = y.take k) (he : x[k] = y[k]) : x.take (k + 1) = y.take (k + 1) := by
  rw [List.take_succ_eq_append_getElem hx, List.take_succ_eq_append_getElem hy, h, he]
theorem get_neB (x y : List Bool) (k : Nat) (hx : k < x.length) (hy : k < y.length) (he : x[k] ≠ y[k]) : false = decide (x = y) := by
  rw [eq_comm, decide_eq_false_iff_not]; rintro rfl; exact he rfl
theorem take_eq_endB (x y : List Bool) (k : Nat) (hx : x.length ≤ k) (hy : y.length ≤ k) (h : x.take k = y.take k) : true = decide (x = y) := by
  rw [List.take_of_length_le hx, List.take_of_length_le hy] at h; rw [eq_comm, decide_eq_true_iff]; exact h
def upfromB (k : Int) (n : Nat) : List Bool := (List.range n).map fun (i : Nat) => (k + i) % 3 == 0
theorem upfromB_length (k : Int) (n : Nat) : (upfromB k n).length = n := by simp [upfromB]
theorem upfromB_get (k : Int) (n i : Nat) (h : i < (upfromB k n).length) : (upfromB k n)[i] = ((k + i) % 3 == 0) := by simp [upfromB]
/-- The call writes its marks into the list, and returns the number behind the last. -/
def RetMarkB (w : World) (lo hi : Nat) (e : TypeId) (s : Nat) (A : Option Addr) (n c : Nat) (xs : List Value) (m : Int) (en : Ending) (w' : World) : Prop :=
  en = .returned (.int .i64 m) ∧ Own w' lo hi e s A n c xs ∧ Fr lo hi w w' ∧ w'.heap.size = w.heap.size
theorem bool_info : (Try.prog.info? 4).map (fun i => (i.zero, i.size, i.bytes)) = some (some (.bool false), 1, 1) := by kernel_rfl

theorem toBoolS_any (A : Option Addr) (n c B : Nat) (d : List Bool) (w : World) (h : Sees w B 1 A n c (bools d)) (hB : B ≤ w.heap.size) (hn8 : n ≤ 17592186044416) :
    Calls Try.prog 32 #[.slice A n c] w (RetFresh w 4 1 n (bools d)) := by
  have hn := h.bool
  have hc1 := h.cap
  have HN : Hid (d.length = n) := Lib.hid hn
  clear hn
  have hmk := run_make_row' (P := Try.prog) 22 4 (.bool false) 1 Try.underlying22 bool_info rfl .i64 .i64 n (by omega) (by omega)
  go_enter Try.func32, Try.ntmps32
  go_wp2
  clear hmk
  go_loopw [4] (fun i wr => ∃ (k : Nat) (cur : Array Value), k ≤ n ∧ i = .int .i64 k ∧ Hid (cur.size = n ∧ cur.toList.take k = bools (d.take k)) ∧ wr = w.alloc (.cells cur 4)) (fun i _ => n - (intOf i).toNat)
  case atStart => exact ⟨0, _, Nat.zero_le _, rfl, ⟨by simp [size_madeCells], rfl⟩, rfl⟩
  case round =>
    obtain ⟨k, cur, hk, rfl, hrel, rfl⟩ := hrel
    by_cases hlt : k < n
    · have hkd : k < d.length := by rw [HN.out]; exact hlt
      have hkc : k < cur.size := by rw [hrel.out.1]; exact hlt
      obtain ⟨b, o, rfl, hbB, hcell⟩ := h.bool_at (by omega)
      have hx : (w.alloc (.cells cur 4)).cell? ⟨b, o + k, none⟩ = some (.bool d[k]) := (World.cell?_alloc_lt w _ _ (by show b < w.heap.size; omega)).trans (hcell k hkd)
      have hcur : cur[k]? = some cur[k] := Array.getElem?_eq_getElem hkc
      have hst : Hid ((cur.setIfInBounds k (.bool d[k])).size = n ∧ (cur.setIfInBounds k (.bool d[k])).toList.take (k + 1) = bools (d.take (k + 1))) :=
        ⟨by rw [Array.size_setIfInBounds]; exact hrel.out.1, by rw [Array.toList_setIfInBounds, set_take _ _ _ (by simpa using hkc), bools_take d k hkd, hrel.out.2]⟩
      clear hcell
      go_wp2
      go_roundw
      case rel => exact ⟨k + 1, _, by omega, by go_num, hst, rfl⟩
      case measure => simp [intOf]; omega
    · have hcur := hrel.out
      have : k = n := by omega
      subst this
      rw [List.take_of_length_le (by simp; omega), List.take_of_length_le (by rw [HN.out]; exact Nat.le_refl _)] at hcur
      have H := Lib.hid hcur
      clear hcur hrel
      go_wp2
      go_ret
      exact ⟨_, _, rfl, Own.made (by rw [H.out.1, Nat.mul_one]) (Nat.le_refl _) (by omega) (by rw [List.take_of_length_le (by simp [H.out.1])]; exact H.out.2) (Nat.le_refl _) (by rw [World.size_alloc]; omega), (Below.refl _ _).alloc (Nat.le_refl _) _⟩

theorem eqBoolS_any (A A' : Option Addr) (n c n' c' B B' : Nat) (x y : List Bool) (w : World) (h : Sees w B 1 A n c (bools x)) (h' : Sees w B' 1 A' n' c' (bools y)) :
    Calls Try.prog 28 #[.slice A n c, .slice A' n' c'] w (RetPure w (.bool (decide (x = y)))) := by
  have hn := h.bool
  have hn' := h'.bool
  have hc1 := h.cap
  have hc2 := h.big
  have hc3 := h'.cap
  have hc4 := h'.big
  by_cases hnn : n = n'
  case neg =>
    have hd : decide (x = y) = false := by rw [decide_eq_false_iff_not]; rintro rfl; omega
    rw [hd]
    clear hd hn hn'
    go_enter Try.func28, Try.ntmps28
    go_wp2
    go_ret
    exact ⟨rfl, Below.refl _ _⟩
  case pos =>
  subst hnn
  have HN : Hid (x.length = n ∧ y.length = n) := Lib.hid ⟨hn, hn'⟩
  clear hn hn'
  go_enter Try.func28, Try.ntmps28
  go_wp2
  go_loopw [5] (fun i wr => ∃ (k q : Nat), k ≤ n ∧ i = .int .i64 k ∧ Hid (x.take k = y.take k) ∧ wr = w.drewN q) (fun i _ => n - (intOf i).toNat)
  case atStart => exact ⟨0, 0, Nat.zero_le _, rfl, rfl, rfl⟩
  case round =>
    obtain ⟨k, q, hk, rfl, hrel, rfl⟩ := hrel
    by_cases hlt : k < n
    · have hkx : k < x.length := by rw [HN.out.1]; exact hlt
      have hky : k < y.length := by rw [HN.out.2]; exact hlt
      obtain ⟨b, o, rfl, _, hcell⟩ := h.bool_at (by omega)
      obtain ⟨b', o', rfl, _, hcell'⟩ := h'.bool_at (by omega)
      have hx := hcell k hkx
      have hy := hcell' k hky
      clear hcell hcell'
      have i1 : (0 : Int) ≤ (k : Int) := by omega
      have i2 : (k : Int) < (n : Int) := by omega
      by_cases he : x[k] = y[k]
      · have hst := Lib.hid (take_eq_stepB x y k hkx hky hrel.out he)
        rw [← he] at hy
        clear he
        generalize x[k] = v at hx hy
        go_wp2_with fail
        go_quiet (fail)
        go_wp2
        go_roundw
        case rel => exact ⟨k + 1, _, by omega, by go_num, hst, rfl⟩
        case measure => simp [intOf]; omega
      · have hst := Lib.hid (get_neB x y k hkx hky he)
        have hb : y[k] = !x[k] := by cases hx2 : x[k] <;> cases hy2 : y[k] <;> simp_all
        rw [hb] at hy
        clear hb he
        generalize x[k] = v at hx hy
        cases v
        all_goals
          simp only [Bool.not_false, Bool.not_true] at hy
          go_wp2_with fail
          go_quiet (fail)
          go_wp2
          go_ret
          exact ⟨ret_bool hst.out, below_drewN (below_drewN (Below.refl _ _) _) _⟩
    · go_wp2
      go_ret
      exact ⟨ret_bool (take_eq_endB x y k (by rw [HN.out.1]; omega) (by rw [HN.out.2]; omega) hrel.out), below_drewN (Below.refl _ _) _⟩

theorem eqBoolS_t (A A' : Option Addr) (n c n' c' B B' : Nat) (x : List Bool) (w : World) (h : Sees w B 1 A n c (bools x)) (h' : Sees w B' 1 A' n' c' (bools x)) :
    Calls Try.prog 28 #[.slice A n c, .slice A' n' c'] w (RetPure w (.bool true)) := by
  have := eqBoolS_any A A' n c n' c' B B' x x w h h'
  rw [decide_eq_true rfl] at this
  exact this

theorem eqBoolS_e (A A' : Option Addr) (n c n' c' B B' : Nat) (x y : List Bool) (w : World) (h : Sees w B 1 A n c (bools x)) (h' : Sees w B' 1 A' n' c' (bools y)) (e : Hid (x = y)) :
    Calls Try.prog 28 #[.slice A n c, .slice A' n' c'] w (RetPure w (.bool true)) := by
  have := eqBoolS_any A A' n c n' c' B B' x y w h h'
  rw [decide_eq_true e.out] at this
  exact this

theorem markBoolS_any (A : Option Addr) (n c lo hi : Nat) (d : List Bool) (k0 : Int) (w : World) (h : Own w lo hi 4 1 A n c (bools d)) (hk0 : 0 ≤ k0) (hk1 : k0 + n ≤ 9223372036854775807) :
    Calls Try.prog 29 #[.slice A n c, .int .i64 k0] w (RetMarkB w lo hi 4 1 A n c (bools (upfromB k0 n)) (k0 + n)) := by
  have hn := h.sees.bool
  have hc1 := h.cap
  have hc2 := h.big
  have HN : Hid (d.length = n) := Lib.hid hn
  clear hn
  go_enter Try.func29, Try.ntmps29
  go_wp2
  go_loopw [1, 5] (fun t i wr => ∃ (k : Nat) (xs : List Value), k ≤ n ∧ i = .int .i64 k ∧ t = .int .i64 (k0 + k) ∧ Own wr lo hi 4 1 A n c xs ∧ Hid (xs.take k = (bools (upfromB k0 n)).take k) ∧ Fr lo hi w wr ∧ Hid (wr.heap.size = w.heap.size)) (fun _ i _ => n - (intOf i).toNat)
  case atStart => exact ⟨0, _, Nat.zero_le _, rfl, by simp, h, rfl, Fr.refl _ _ _, rfl⟩
  case round =>
    obtain ⟨k, xs, hk, rfl, rfl, hown, hrel, hfr, hsz⟩ := hrel
    by_cases hlt : k < n
    · obtain ⟨g, rfl, hg1, hg2, hg3⟩ := hown.head (by omega)
      have hxl : k < xs.length := by have := hown.len; omega
      have hc := hown.cell rfl k _ (List.getElem?_eq_getElem hxl)
      have hf := hown.frozen rfl k
      have hown' := hown.set rfl k (.bool ((k0 + k) % 3 == 0))
      have hfr' := hfr.set hg1 hg2 k (.bool ((k0 + k) % 3 == 0))
      have hsz' : Hid ((wr.setCell ⟨g, k, none⟩ (.bool ((k0 + k) % 3 == 0))).heap.size = w.heap.size) := by have := hsz.out; show _ = _; rw [World.size_setCell]; exact this
      have hst : Hid ((xs.set k (.bool ((k0 + k) % 3 == 0))).take (k + 1) = (bools (upfromB k0 n)).take (k + 1)) := by
        have hu : k < (bools (upfromB k0 n)).length := by rw [bools_length, upfromB_length]; exact hlt
        show _ = _
        rw [set_take _ _ _ hxl, hrel.out, List.take_succ_eq_append_getElem hu]
        simp [bools, upfromB]
      clear hown hfr hsz hrel
      go_wp2
      go_roundw
      case rel => exact ⟨k + 1, _, by omega, by go_num, by go_num, hown', hst, hfr', hsz'⟩
      case measure => simp [intOf]; omega
    · have : k = n := by omega
      subst this
      have hxs := hrel.out
      rw [List.take_of_length_le (by rw [hown.len]; omega), List.take_of_length_le (by rw [bools_length, upfromB_length]; exact Nat.le_refl _)] at hxs
      subst hxs
      go_wp2
      go_ret
      exact ⟨rfl, hown, hfr, hsz.out⟩

theorem heldBoolS_any (A : Option Addr) (n c B : Nat) (k0 : Int) (w : World) (h : Sees w B 1 A n c (bools (upfromB k0 n))) (hk0 : 0 ≤ k0) (hk1 : k0 + n ≤ 9223372036854775807) :
    Calls Try.prog 30 #[.slice A n c, .int .i64 k0] w fun e w' => e = .returned (.int .i64 (k0 + n)) ∧ w = w' := by
  have hc1 := h.cap
  have hc2 := h.big
  go_enter Try.func30, Try.ntmps30
  go_wp2
  go_loop [1, 5] (fun t i => ∃ k : Nat, k ≤ n ∧ i = .int .i64 k ∧ t = .int .i64 (k0 + k)) (fun _ i => n - (intOf i).toNat)
  case atStart => exact ⟨0, Nat.zero_le _, rfl, by simp⟩
  case round =>
    obtain ⟨k, hk, rfl, rfl⟩ := hrel
    by_cases hlt : k < n
    · obtain ⟨b, o, rfl, _, hcell⟩ := h.bool_at (by omega)
      have hx := hcell k (by rw [upfromB_length]; exact hlt)
      rw [upfromB_get] at hx
      clear hcell
      go_wp2
      go_round
      case rel => exact ⟨k + 1, by omega, by go_num, by go_num⟩
      case measure => simp [intOf]; omega
    · have : k = n := by omega
      subst this
      go_wp2
      go_ret
      exact ⟨rfl, rfl⟩

theorem cloneB_any (A : Option Addr) (n c B : Nat) (xs : List Value) (w : World) (h : Sees w B 1 A n c xs) (h1 : ∀ u ∈ xs, u.oneCell' = true) (hB : B ≤ w.heap.size) (hn8 : n ≤ 17592186044416 / 1) :
    Calls Try.prog 37 #[.slice A n c] w (RetFresh w 4 1 n xs) := by
  obtain ⟨i0, hi, hz0, hz1, hz2⟩ := info_parts bool_info
  have hc1 := h.cap
  have hc2 := h.big
  have hnil := fun (w : World) (n' c' : Nat) => Lib.run_eql_slice_nil (P := Try.prog) w 22 4 A n c n' c' Try.underlying22
  cases A with
  | none =>
    have hn : n = 0 := by
      rcases Nat.eq_zero_or_pos n with h0 | h0
      · exact h0
      · obtain ⟨b, o, e, _⟩ := h.at_ h0; cases e
    subst hn
    have hx : xs = [] := List.eq_nil_of_length_eq_zero (by have := h.len; omega)
    subst hx
    go_enter Try.func37, Try.ntmps37
    go_wp2
    go_ret
    exact ⟨_, _, rfl, Own.nil _ _ _ _ _, Below.refl _ _⟩
  | some ad =>
    have hown : Own (w.alloc (.cells #[] 4)) w.heap.size (w.heap.size + 1) 4 1 (some ⟨w.heap.size, 0, none⟩) 0 0 [] :=
      Own.made (by simp) (Nat.le_refl _) (by omega) (by simp) (Nat.le_refl _) (by omega)
    have hsee : Sees (w.alloc (.cells #[] 4)) B 1 (some ad) n c xs := h.below ((Below.refl B w).alloc hB _) (Nat.le_refl _)
    go_enter Try.func37, Try.ntmps37
    go_wp2_with (at_builtin; refine wpList_app _ rfl (.tmp 5) (.tmp 6) _ rfl 4 i0 (.bool false) 1 1 Try.underlying22 hi hz0 hz1 hz2 rfl (by decide) w.heap.size (w.heap.size + 1) _ 0 0 [] rfl hown B (some ad) n c xs rfl hsee h1 (by omega) (by omega) (by simp) ?_; intro A2 c2 w2 hown2 hfr2)
    go_ret
    exact ⟨A2, c2, by simp, by simpa using hown2, Fr.below ((Below.refl _ _).alloc (Nat.le_refl _) _) hfr2 (Nat.le_refl _) (Nat.le_refl _)⟩

theorem szBoolS_any (A : Option Addr) (n c : Nat) (left : Int) (w : World) (hn : n ≤ 9223372036854775807) (h0 : 0 ≤ left) (h1 : left ≤ 9223372036854775807) :
    Calls Try.prog 31 #[.slice A n c, .int .i64 left] w fun e w' => e = .returned (.int .i64 (if left - n < 0 then -1 else left - n)) ∧ w = w' := by
  by_cases hl : left - n < 0
  · rw [if_pos hl]
    go_enter Try.func31, Try.ntmps31
    go_wp2_with fail
    go_ret
    exact ⟨rfl, rfl⟩
  · rw [if_neg hl]
    go_enter Try.func31, Try.ntmps31
    go_wp2_with fail
    go_ret
    exact ⟨rfl, rfl⟩

end Go.Proofs.Ytophfpdcbkhifaa
