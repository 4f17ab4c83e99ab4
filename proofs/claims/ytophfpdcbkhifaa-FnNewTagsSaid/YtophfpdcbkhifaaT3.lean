/-
  Walks: NewTags and TagsUsed of the program and of the reference.
-/
import Derived.Test.YtophfpdcbkhifaaT2
namespace Go.Proofs.Ytophfpdcbkhifaa
open Go.RowKit
theorem falses (n : Nat) : (madeCells #[Value.bool false] n).toList = bools (List.replicate n false) := by
  rw [toList_madeCells_one]; simp [bools]
theorem specNewTags_any (n : Int) (w : World) : Calls Try.prog 9 #[.int .i64 n] w (RetF w 4 1 (tnew n).length (bools (tnew n)) tagV) := by
  cases hw : win n 0 16 with
  | false =>
    have ht : tnew n = [] := by unfold tnew; rw [if_neg (by simp [hw])]
    rw [ht]
    clear ht
    go_enter Try.func9, Try.ntmps9
    go_wp2_with (go_at_call 26; refine (l1In_any _ _ _ _).mono ?_; rw [hw]; rintro e w' ⟨rfl, rfl⟩)
    refine bodyPost_ret (v := .agg #[.slice none 0 0]) (by simp [results, Try.results9, go_sem]) rfl ?_
    exact RetF.of (f := tagV) (Own.nil _ w.heap.size w.heap.size _ _) (Nat.le_refl _) (by simp) (below_new _ _)
  | true =>
    have hn := (win_iff _ _ _).1 hw
    obtain ⟨m, rfl⟩ := Int.eq_ofNat_of_zero_le hn.1
    have ht : tnew (m : Int) = List.replicate m false := by unfold tnew; rw [if_pos hw, Int.toNat_natCast]
    rw [ht, List.length_replicate]
    clear ht
    have hm : m ≤ 16 := by omega
    have hmk := run_make_row' (P := Try.prog) 22 4 (.bool false) 1 Try.underlying22 bool_info rfl .i64 .i64 m (by omega) (by omega)
    go_enter Try.func9, Try.ntmps9
    go_wp2_with (go_at_call 26; refine (l1In_any _ _ _ _).mono ?_; rw [hw]; rintro e w' ⟨rfl, rfl⟩)
    refine bodyPost_ret (v := .agg #[.slice (some ⟨w.heap.size + 1, 0, none⟩) m m]) (by simp [results, Try.results9, go_sem]) rfl ?_
    have o := Own.made (w := w.alloc (.cells #[.slice (some ⟨w.heap.size + 1, 0, none⟩) m m] 24)) (e := 4) (cur := madeCells #[.bool false] m) (s := 1) (n := m) (c := m) (xs := bools (List.replicate m false)) (lo := w.heap.size) (hi := w.heap.size + 1 + 1) (by simp [size_madeCells]) (Nat.le_refl _) (by omega) (by rw [falses]; exact List.take_of_length_le (by simp [bools])) (by simp) (by simp)
    rw [World.size_alloc] at o
    exact RetF.of (f := tagV) o (Nat.le_refl _) (by simp) ((below_new _ _).alloc (Nat.le_of_lt (by simp)) _)
theorem implNewTags_any (n : Int) (w : World) : Calls Try.prog 10 #[.int .i64 n] w (RetF w 4 1 (tnew n).length (bools (tnew n)) tagV) := by
  cases hw : win n 0 16 with
  | false =>
    have ht : tnew n = [] := by unfold tnew; rw [if_neg (by simp [hw])]
    rw [ht]
    clear ht
    go_enter Try.func10, Try.ntmps10
    go_wp2_with (go_at_call 27; refine (within_any _ _ _ _).mono ?_; rw [hw]; rintro e w' ⟨rfl, rfl⟩)
    refine bodyPost_ret (v := .agg #[.slice none 0 0]) (by simp [results, Try.results10, go_sem]) rfl ?_
    exact RetF.of (f := tagV) (Own.nil _ w.heap.size w.heap.size _ _) (Nat.le_refl _) (by simp) (below_new _ _)
  | true =>
    have hn := (win_iff _ _ _).1 hw
    obtain ⟨m, rfl⟩ := Int.eq_ofNat_of_zero_le hn.1
    have ht : tnew (m : Int) = List.replicate m false := by unfold tnew; rw [if_pos hw, Int.toNat_natCast]
    rw [ht, List.length_replicate]
    clear ht
    have hm : m ≤ 16 := by omega
    have hmk := run_make_row' (P := Try.prog) 22 4 (.bool false) 1 Try.underlying22 bool_info rfl .i64 .i64 m (by omega) (by omega)
    go_enter Try.func10, Try.ntmps10
    go_wp2_with (go_at_call 27; refine (within_any _ _ _ _).mono ?_; rw [hw]; rintro e w' ⟨rfl, rfl⟩)
    refine bodyPost_ret (v := .agg #[.slice (some ⟨w.heap.size + 1, 0, none⟩) m m]) (by simp [results, Try.results10, go_sem]) rfl ?_
    have o := Own.made (w := w.alloc (.cells #[.slice (some ⟨w.heap.size + 1, 0, none⟩) m m] 24)) (e := 4) (cur := madeCells #[.bool false] m) (s := 1) (n := m) (c := m) (xs := bools (List.replicate m false)) (lo := w.heap.size) (hi := w.heap.size + 1 + 1) (by simp [size_madeCells]) (Nat.le_refl _) (by omega) (by rw [falses]; exact List.take_of_length_le (by simp [bools])) (by simp) (by simp)
    rw [World.size_alloc] at o
    exact RetF.of (f := tagV) o (Nat.le_refl _) (by simp) ((below_new _ _).alloc (Nat.le_of_lt (by simp)) _)
theorem specTagsUsed_any (A : Option Addr) (n c B : Nat) (d : List Bool) (w : World) (h : Sees w B 1 A n c (bools d)) (hB : B ≤ w.heap.size) :
    Calls Try.prog 15 #[.agg #[.slice A n c]] w (RetPure w (.int .i64 (tcnt d))) := by
  have hn := h.bool
  have hc1 := h.cap
  have hc2 := h.big
  have h0 := h.below (below_new w (.cells #[.slice A n c] 24)) hB
  have HN : Hid (d.length = n) := Lib.hid hn
  clear hn
  go_enter Try.func15, Try.ntmps15
  go_wp2_with fail
  go_loop [3, 4] (fun t i => ∃ (k s : Nat), k ≤ n ∧ i = .int .i64 k ∧ t = .int .i64 s ∧ s ≤ k ∧ Hid (s = tcnt (d.take k))) (fun _ i => n - (intOf i).toNat)
  case atStart => exact ⟨0, 0, Nat.zero_le _, rfl, rfl, by omega, rfl⟩
  case round =>
    obtain ⟨k, s, hk, rfl, rfl, hs0, hrel⟩ := hrel
    by_cases hlt : k < n
    · have hkd : k < d.length := by rw [HN.out]; exact hlt
      obtain ⟨b, o, rfl, _, hcell⟩ := h0.bool_at (by omega)
      have hx := hcell k hkd
      have hst := tcnt_take d k hkd
      rw [← hrel.out] at hst
      clear hcell
      cases hv : d[k] with
      | true =>
        rw [hv] at hx hst
        have H := Lib.hid hst
        clear hst hv
        go_wp2_with fail
        go_round
        case rel => exact ⟨k + 1, s + 1, by omega, by go_num, by go_num, by omega, by have := H.out; simp at this; exact this.symm⟩
        case measure => simp [intOf]; omega
      | false =>
        rw [hv] at hx hst
        have H := Lib.hid hst
        clear hst hv
        go_wp2_with fail
        go_round
        case rel => exact ⟨k + 1, s, by omega, by go_num, rfl, by omega, by have := H.out; simp at this; exact this.symm⟩
        case measure => simp [intOf]; omega
    · go_wp2_with fail
      go_ret
      refine ⟨ret_int ?_, below_new _ _⟩
      have := hrel.out
      rw [List.take_of_length_le (by rw [HN.out]; omega)] at this
      rw [this]
theorem implTagsUsed_any (A : Option Addr) (n c B : Nat) (d : List Bool) (w : World) (h : Sees w B 1 A n c (bools d)) (hB : B ≤ w.heap.size) :
    Calls Try.prog 17 #[.agg #[.slice A n c]] w (RetPure w (.int .i64 (tcnt d))) := by
  have hn := h.bool
  have hc1 := h.cap
  have hc2 := h.big
  have h0 := h.below (below_new w (.cells #[.slice A n c] 24)) hB
  have HN : Hid (d.length = n) := Lib.hid hn
  clear hn
  go_enter Try.func17, Try.ntmps17
  go_wp2_with fail
  go_loop [3, 9] (fun t i => ∃ (k s : Nat), k ≤ n ∧ i = .int .i64 k ∧ t = .int .i64 s ∧ s ≤ k ∧ Hid (s = tcnt (d.take k))) (fun _ i => n - (intOf i).toNat)
  case atStart => exact ⟨0, 0, Nat.zero_le _, rfl, rfl, by omega, rfl⟩
  case round =>
    obtain ⟨k, s, hk, rfl, rfl, hs0, hrel⟩ := hrel
    by_cases hlt : k < n
    · have hkd : k < d.length := by rw [HN.out]; exact hlt
      obtain ⟨b, o, rfl, _, hcell⟩ := h0.bool_at (by omega)
      have hx := hcell k hkd
      have hst := tcnt_take d k hkd
      rw [← hrel.out] at hst
      clear hcell
      cases hv : d[k] with
      | true =>
        rw [hv] at hx hst
        have H := Lib.hid hst
        clear hst hv
        go_wp2_with fail
        go_round
        case rel => exact ⟨k + 1, s + 1, by omega, by go_num, by go_num, by omega, by have := H.out; simp at this; exact this.symm⟩
        case measure => simp [intOf]; omega
      | false =>
        rw [hv] at hx hst
        have H := Lib.hid hst
        clear hst hv
        go_wp2_with fail
        go_round
        case rel => exact ⟨k + 1, s, by omega, by go_num, rfl, by omega, by have := H.out; simp at this; exact this.symm⟩
        case measure => simp [intOf]; omega
    · go_wp2_with fail
      go_ret
      refine ⟨ret_int ?_, below_new _ _⟩
      have := hrel.out
      rw [List.take_of_length_le (by rw [HN.out]; omega)] at this
      rw [this]
end Go.Proofs.Ytophfpdcbkhifaa
