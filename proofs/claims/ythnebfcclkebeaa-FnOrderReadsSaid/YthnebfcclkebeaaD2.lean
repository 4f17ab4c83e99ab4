/-
  Walks: the loops over a list of numbers that only read it: allWithin, DiskValid of the program and of the reference.
-/
import Derived.Test.YthnebfcclkebeaaD1
namespace Go.Proofs.Ythnebfcclkebeaa
open Go.RowKit

theorem allWithin_any (A : Option Addr) (n c B : Nat) (d : List Int) (lo hi : Int) (w : World) (h : Sees w B 1 A n c (ints d)) :
    Calls Try.prog 71 #[.slice A n c, .int .i64 lo, .int .i64 hi] w fun e w' => e = .returned (.bool (allw d lo hi)) ∧ w = w' := by
  have hn := h.int
  have hc1 := h.cap
  have hc2 := h.big
  have HN : Hid (d.length = n) := Lib.hid hn
  clear hn
  go_enter Try.func71, Try.ntmps71
  go_wp2
  go_loop [11] (fun i => ∃ k : Nat, k ≤ n ∧ i = .int .i64 k ∧ Hid (allw (d.take k) lo hi = true)) (fun i => n - (intOf i).toNat)
  case atStart => exact ⟨0, Nat.zero_le _, rfl, allw_take0 d lo hi⟩
  case round =>
    obtain ⟨k, hk, rfl, hrel⟩ := hrel
    by_cases hlt : k < n
    · have hkd : k < d.length := by rw [HN.out]; exact hlt
      obtain ⟨b, o, rfl, _, hcell⟩ := h.int_at (by omega)
      have hx := hcell k hkd
      clear hcell
      cases hw : win d[k] lo hi with
      | true =>
        have hst := Lib.hid (allw_step d lo hi k hkd hrel.out hw)
        go_wp2_with (go_at_call 63; refine (within_any _ _ _ _).mono ?_; rintro e w' ⟨rfl, rfl⟩)
        go_round
        case rel => exact ⟨k + 1, by omega, by go_num, hst⟩
        case measure => simp [intOf]; omega
      | false =>
        have hst := Lib.hid (allw_stop d lo hi k hkd hw)
        go_wp2_with (go_at_call 63; refine (within_any _ _ _ _).mono ?_; rintro e w' ⟨rfl, rfl⟩)
        go_ret
        exact ⟨ret_bool hst.out, rfl⟩
    · go_wp2
      go_ret
      exact ⟨ret_bool (allw_end d lo hi k (by rw [HN.out]; omega) hrel.out), rfl⟩

/-- The reference walks the list first and asks its length last. -/
theorem specDiskValid_any (A : Option Addr) (n c B : Nat) (d : List Int) (w : World) (h : Sees w B 1 A n c (ints d)) :
    Calls Try.prog 39 #[.slice A n c] w fun e w' => e = .returned (.bool (dval d)) ∧ w = w' := by
  have hn := h.int
  have hc1 := h.cap
  have hc2 := h.big
  have HN : Hid (d.length = n) := Lib.hid hn
  clear hn
  go_enter Try.func39, Try.ntmps39
  go_wp2
  go_loop [3] (fun i => ∃ k : Nat, k ≤ n ∧ i = .int .i64 k ∧ Hid (allw (d.take k) 0 255 = true)) (fun i => n - (intOf i).toNat)
  case atStart => exact ⟨0, Nat.zero_le _, rfl, allw_take0 d 0 255⟩
  case round =>
    obtain ⟨k, hk, rfl, hrel⟩ := hrel
    by_cases hlt : k < n
    · have hkd : k < d.length := by rw [HN.out]; exact hlt
      obtain ⟨b, o, rfl, _, hcell⟩ := h.int_at (by omega)
      have hx := hcell k hkd
      clear hcell
      cases hw : win d[k] 0 255 with
      | true =>
        have hst := Lib.hid (allw_step d 0 255 k hkd hrel.out hw)
        go_wp2_with (go_at_call 62; refine (l1In_any _ _ _ _).mono ?_; rintro e w' ⟨rfl, rfl⟩)
        go_round
        case rel => exact ⟨k + 1, by omega, by go_num, hst⟩
        case measure => simp [intOf]; omega
      | false =>
        have hst := Lib.hid (allw_stop d 0 255 k hkd hw)
        go_wp2_with (go_at_call 62; refine (l1In_any _ _ _ _).mono ?_; rintro e w' ⟨rfl, rfl⟩)
        go_ret
        exact ⟨ret_bool (by unfold dval; rw [← hst.out, Bool.and_false]), rfl⟩
    · go_wp2
      go_ret
      refine ⟨ret_bool ?_, rfl⟩
      unfold dval
      rw [← allw_end d 0 255 k (by rw [HN.out]; omega) hrel.out, HN.out, Bool.and_true]
      exact decide_eq_decide.2 (by omega)

theorem implDiskValid_any (A : Option Addr) (n c B : Nat) (d : List Int) (w : World) (h : Sees w B 1 A n c (ints d)) :
    Calls Try.prog 49 #[.slice A n c] w fun e w' => e = .returned (.bool (dval d)) ∧ w = w' := by
  have hn := h.int
  have hc1 := h.cap
  have hc2 := h.big
  by_cases h64 : n ≤ 64
  · have hd : dval d = allw d 0 255 := by unfold dval; rw [hn, decide_eq_true h64, Bool.true_and]
    rw [hd]; clear hd hn
    go_enter Try.func49, Try.ntmps49
    go_wp2_with (go_at_call 71; refine (allWithin_any _ _ _ _ _ _ _ _ h).mono ?_; rintro e w' ⟨rfl, rfl⟩)
    go_ret
    exact ⟨rfl, rfl⟩
  · have hd : dval d = false := by unfold dval; rw [hn, decide_eq_false h64, Bool.false_and]
    rw [hd]; clear hd hn
    go_enter Try.func49, Try.ntmps49
    go_wp2_with fail
    go_ret
    exact ⟨rfl, rfl⟩
theorem implDiskSum_any (A : Option Addr) (n c B : Nat) (d : List Int) (w : World) (h : Sees w B 1 A n c (ints d)) :
    Calls Try.prog 59 #[.slice A n c] w fun e w' => e = .returned (.int .i64 (dsum d)) ∧ w = w' := by
  have hn := h.int
  have hc1 := h.cap
  have hc2 := h.big
  cases hd : dval d with
  | false =>
    rw [dsum_no d hd]
    go_enter Try.func59, Try.ntmps59
    go_wp2_with (go_at_call 49; refine (implDiskValid_any _ _ _ _ _ _ h).mono ?_; rintro e w' ⟨rfl, rfl⟩)
    go_ret
    exact ⟨rfl, rfl⟩
  | true =>
    have hv := (dval_iff d).1 hd
    have h64 : n ≤ 64 := by omega
    have HN : Hid (d.length = n) := Lib.hid hn
    have HV : Hid (∀ v ∈ d, 0 ≤ v ∧ v ≤ 255) := Lib.hid hv.2
    clear hn hv
    go_enter Try.func59, Try.ntmps59
    go_wp2_with (go_at_call 49; refine (implDiskValid_any _ _ _ _ _ _ h).mono ?_; rintro e w' ⟨rfl, rfl⟩)
    have HD : Hid (dval d = true) := Lib.hid hd
    clear hd
    go_loop [3, 11] (fun t i => ∃ (k : Nat) (s : Int), k ≤ n ∧ i = .int .i64 k ∧ t = .int .i64 s ∧ 0 ≤ s ∧ s ≤ 65520 ∧ Hid (s = sumS (d.take k))) (fun _ i => n - (intOf i).toNat)
    case atStart => exact ⟨0, 1, Nat.zero_le _, rfl, rfl, by omega, by omega, rfl⟩
    case round =>
      obtain ⟨k, s, hk, rfl, rfl, hs0, hs1, hrel⟩ := hrel
      by_cases hlt : k < n
      · have hkd : k < d.length := by rw [HN.out]; exact hlt
        obtain ⟨b, o, rfl, _, hcell⟩ := h.int_at (by omega)
        have hx := hcell k hkd
        have hv := HV.out d[k] (List.getElem_mem hkd)
        have hst := Lib.hid (sumS_step d k hkd s hrel.out)
        clear hcell
        generalize d[k] = v at *
        go_wp2
        go_round
        case rel => exact ⟨k + 1, _, by omega, by go_num, rfl, by omega, by omega, hst⟩
        case measure => simp [intOf]; omega
      · go_wp2
        go_ret
        exact ⟨ret_int (sumS_end d k (by rw [HN.out]; omega) s hrel.out HD.out), rfl⟩
end Go.Proofs.Ythnebfcclkebeaa
