/-
  Walks: the commands' helpers of the laws (eqCommandS, markCommandS, heldCommandS, szCommandS).
-/
import Derived.Test.YthnebfcclkebeaaM1
import Derived.Deep.RegionHeld3
import Derived.Deep.DrawnRows
import Derived.IntWalk
namespace Go.Proofs.Ythnebfcclkebeaa
open Go.RowKit
set_option linter.unusedSimpArgs false
set_option linter.unusedVariables false
attribute [local go_sem ↓] Go.wp_at_zero Go.wp_at_succ
set_option maxHeartbeats 2000000 in
theorem eqCommandS_any (A A' : Option Addr) (n c n' c' B B' : Nat) (x y : List Cmd) (w : World) (h : Sees w B 4 A n c (cmdC x)) (h' : Sees w B' 4 A' n' c' (cmdC y)) (hB : B ≤ w.heap.size) (hB' : B' ≤ w.heap.size) :
    Calls Try.prog 22 #[.slice A n c, .slice A' n' c'] w (RetPure w (.bool (decide (x = y)))) := by
  have hn := h.cmd
  have hn' := h'.cmd
  have hc1 := h.cap
  have hc2 := h.big
  have hc3 := h'.cap
  have hc4 := h'.big
  by_cases hnn : n = n'
  case neg =>
    have hd : decide (x = y) = false := by rw [decide_eq_false_iff_not]; rintro rfl; omega
    rw [hd]
    clear hd hn hn'
    go_enter Try.func22, Try.ntmps22
    go_wp2_with fail
    go_ret
    exact ⟨rfl, Below.refl _ _⟩
  case pos =>
  subst hnn
  have HN : Hid (x.length = n ∧ y.length = n) := Lib.hid ⟨hn, hn'⟩
  clear hn hn'
  go_enter Try.func22, Try.ntmps22
  go_wp2_with fail
  go_loopw [5] (fun i wr => ∃ (k : Nat), k ≤ n ∧ i = .int .i64 k ∧ Hid (x.take k = y.take k) ∧ Below w.heap.size w wr) (fun i _ => n - (intOf i).toNat)
  case atStart => exact ⟨0, Nat.zero_le _, rfl, rfl, Below.refl _ _⟩
  case round =>
    obtain ⟨k, hk, rfl, hrel, hb⟩ := hrel
    by_cases hlt : k < n
    · have hkx : k < x.length := by rw [HN.out.1]; exact hlt
      have hky : k < y.length := by rw [HN.out.2]; exact hlt
      have hsz := hb.size
      obtain ⟨b, o, rfl, hb1, hcell⟩ := (h.below hb hB).cmd_at (by omega)
      obtain ⟨b', o', rfl, hb2, hcell'⟩ := (h'.below hb hB').cmd_at (by omega)
      obtain ⟨hx0, hx1, hx2, hx3⟩ := hcell k hkx
      obtain ⟨hy0, hy1, hy2, hy3⟩ := hcell' k hky
      clear hcell hcell'
      have i1 : (0 : Int) ≤ (k : Int) := by omega
      have i2 : (k : Int) < (n : Int) := by omega
      have i3 : b < wr.heap.size := by omega
      have i4 : b' < wr.heap.size := by omega
      have hc := eqCommand_any x[k] y[k]
      by_cases he : x[k] = y[k]
      · have hst := Lib.hid (gtake_step x y k hkx hky hrel.out he)
        rw [← he] at hy0 hy1 hy2 hy3 hc
        rw [ceq_refl] at hc
        clear he
        generalize x[k] = e at *
        obtain ⟨v0, v1, v2, v3⟩ := e
        simp only [cmdV] at hc hx0 hx1 hx2 hx3 hy0 hy1 hy2 hy3
        have HC := Lib.hid hc
        clear hc
        go_wp2_with fail
        go_region_held3 (fun w' => w'.cell? ⟨b, o + k * 4, none⟩ = some (.int .i64 v0) ∧ w'.cell? ⟨b, o + k * 4 + 1, none⟩ = some (.int .i64 v1) ∧ w'.cell? ⟨b, o + k * 4 + 2, none⟩ = some (.int .i64 v2) ∧ w'.cell? ⟨b, o + k * 4 + 3, none⟩ = some (.int .i64 v3) ∧ w'.cell? ⟨b', o' + k * 4, none⟩ = some (.int .i64 v0) ∧ w'.cell? ⟨b', o' + k * 4 + 1, none⟩ = some (.int .i64 v1) ∧ w'.cell? ⟨b', o' + k * 4 + 2, none⟩ = some (.int .i64 v2) ∧ w'.cell? ⟨b', o' + k * 4 + 3, none⟩ = some (.int .i64 v3)) (first | (refine ⟨?_, ?_, ?_, ?_, ?_, ?_, ?_, ?_⟩ <;> assumption) | go_keep) (first | (go_at_call 52; refine (HC.out _).mono ?_; rintro e w1 ⟨rfl, b1⟩; have hB1 := below_later (below_drewN hb 1) b1 (by show w.heap.size ≤ w.heap.size; omega); have j0 := (b1.cell (p := ⟨b, o + k * 4, none⟩) i3).trans hx0; have j1 := (b1.cell (p := ⟨b, o + k * 4 + 1, none⟩) i3).trans hx1; have j2 := (b1.cell (p := ⟨b, o + k * 4 + 2, none⟩) i3).trans hx2; have j3 := (b1.cell (p := ⟨b, o + k * 4 + 3, none⟩) i3).trans hx3; have j4 := (b1.cell (p := ⟨b', o' + k * 4, none⟩) i4).trans hy0; have j5 := (b1.cell (p := ⟨b', o' + k * 4 + 1, none⟩) i4).trans hy1; have j6 := (b1.cell (p := ⟨b', o' + k * 4 + 2, none⟩) i4).trans hy2; have j7 := (b1.cell (p := ⟨b', o' + k * 4 + 3, none⟩) i4).trans hy3))
        go_wp2_with fail
        go_roundw
        case rel => exact ⟨k + 1, by omega, by go_num, hst, hB1⟩
        case measure => simp [intOf]; omega
      · have hst := Lib.hid (gget_ne x y k hkx hky he)
        rw [show ceq x[k] y[k] = false from by rw [Bool.eq_false_iff]; exact fun h => he ((ceq_iff _ _).1 h)] at hc
        clear he
        generalize x[k] = e at *
        generalize y[k] = e' at *
        obtain ⟨v0, v1, v2, v3⟩ := e
        obtain ⟨u0, u1, u2, u3⟩ := e'
        simp only [cmdV] at hc hx0 hx1 hx2 hx3 hy0 hy1 hy2 hy3
        have HC := Lib.hid hc
        clear hc
        go_wp2_with fail
        go_region_held3 (fun w' => w'.cell? ⟨b, o + k * 4, none⟩ = some (.int .i64 v0) ∧ w'.cell? ⟨b, o + k * 4 + 1, none⟩ = some (.int .i64 v1) ∧ w'.cell? ⟨b, o + k * 4 + 2, none⟩ = some (.int .i64 v2) ∧ w'.cell? ⟨b, o + k * 4 + 3, none⟩ = some (.int .i64 v3) ∧ w'.cell? ⟨b', o' + k * 4, none⟩ = some (.int .i64 u0) ∧ w'.cell? ⟨b', o' + k * 4 + 1, none⟩ = some (.int .i64 u1) ∧ w'.cell? ⟨b', o' + k * 4 + 2, none⟩ = some (.int .i64 u2) ∧ w'.cell? ⟨b', o' + k * 4 + 3, none⟩ = some (.int .i64 u3)) (first | (refine ⟨?_, ?_, ?_, ?_, ?_, ?_, ?_, ?_⟩ <;> assumption) | go_keep) (first | (go_at_call 52; refine (HC.out _).mono ?_; rintro e w1 ⟨rfl, b1⟩; have hB1 := below_later (below_drewN hb 1) b1 (by show w.heap.size ≤ w.heap.size; omega); have j0 := (b1.cell (p := ⟨b, o + k * 4, none⟩) i3).trans hx0; have j1 := (b1.cell (p := ⟨b, o + k * 4 + 1, none⟩) i3).trans hx1; have j2 := (b1.cell (p := ⟨b, o + k * 4 + 2, none⟩) i3).trans hx2; have j3 := (b1.cell (p := ⟨b, o + k * 4 + 3, none⟩) i3).trans hx3; have j4 := (b1.cell (p := ⟨b', o' + k * 4, none⟩) i4).trans hy0; have j5 := (b1.cell (p := ⟨b', o' + k * 4 + 1, none⟩) i4).trans hy1; have j6 := (b1.cell (p := ⟨b', o' + k * 4 + 2, none⟩) i4).trans hy2; have j7 := (b1.cell (p := ⟨b', o' + k * 4 + 3, none⟩) i4).trans hy3))
        go_wp2_with fail
        go_ret
        exact ⟨ret_bool hst.out, hB1⟩
    · go_wp2_with fail
      go_ret
      exact ⟨ret_bool (gtake_end x y k (by rw [HN.out.1]; omega) (by rw [HN.out.2]; omega) hrel.out), hb⟩
theorem eqCommandS_t (A A' : Option Addr) (n c n' c' B B' : Nat) (x : List Cmd) (w : World) (h : Sees w B 4 A n c (cmdC x)) (h' : Sees w B' 4 A' n' c' (cmdC x)) (hB : B ≤ w.heap.size) (hB' : B' ≤ w.heap.size) :
    Calls Try.prog 22 #[.slice A n c, .slice A' n' c'] w (RetPure w (.bool true)) := by
  have := eqCommandS_any A A' n c n' c' B B' x x w h h' hB hB'
  rw [decide_eq_true rfl] at this
  exact this
/-- the marks of a list of n commands from k on -/
def upC (k : Int) (n : Nat) : List Cmd := (List.range n).map fun (i : Nat) => ⟨k + 4 * i, k + 4 * i + 1, k + 4 * i + 2, k + 4 * i + 3⟩
theorem upC_length (k : Int) (n : Nat) : (upC k n).length = n := by simp [upC]
theorem upC_get (k : Int) (n i : Nat) (h : i < (upC k n).length) : (upC k n)[i] = ⟨k + 4 * i, k + 4 * i + 1, k + 4 * i + 2, k + 4 * i + 3⟩ := by simp [upC]
set_option maxHeartbeats 1000000 in
theorem markCommandS_any (A : Option Addr) (n c lo hi : Nat) (d : List Cmd) (k0 : Int) (w : World) (h : Own w lo hi 55 4 A n c (cmdC d)) (hk0 : 0 ≤ k0) (hk1 : k0 + 4 * n ≤ 9223372036854775807) :
    Calls Try.prog 24 #[.slice A n c, .int .i64 k0] w (RetMk w lo hi 55 4 A n c (cmdC (upC k0 n)) (k0 + 4 * n)) := by
  have hn := h.sees.cmd
  have hc1 := h.cap
  have hc2 := h.big
  clear hn
  go_enter Try.func24, Try.ntmps24
  go_wp2_with fail
  go_loopw [1, 5] (fun t i wr => ∃ (k : Nat) (xs : List Value), k ≤ n ∧ i = .int .i64 k ∧ t = .int .i64 (k0 + 4 * k) ∧ Own wr lo hi 55 4 A n c xs ∧ Hid (xs.take (k * 4) = cmdC ((upC k0 n).take k)) ∧ Fr lo hi w wr) (fun _ i _ => n - (intOf i).toNat)
  case atStart => exact ⟨0, _, Nat.zero_le _, rfl, by simp, h, Lib.hid (by simp [cmdC]), Fr.refl _ _ _⟩
  case round =>
    obtain ⟨k, xs, hk, rfl, rfl, hown, hrel, hfr⟩ := hrel
    by_cases hlt : k < n
    · obtain ⟨g, rfl, hg1, hg2, hg3⟩ := hown.head (by omega)
      have hxl : k * 4 + 3 < xs.length := by have := hown.len; omega
      have y0 := hown.cell rfl (k * 4) _ (List.getElem?_eq_getElem (by omega))
      have y1 := hown.cell rfl (k * 4 + 1) _ (List.getElem?_eq_getElem (by omega))
      have y2 := hown.cell rfl (k * 4 + 2) _ (List.getElem?_eq_getElem (by omega))
      have y3 := hown.cell rfl (k * 4 + 3) _ (List.getElem?_eq_getElem (by omega))
      have z0 := hown.frozen rfl (k * 4)
      have z1 := hown.frozen rfl (k * 4 + 1)
      have z2 := hown.frozen rfl (k * 4 + 2)
      have z3 := hown.frozen rfl (k * 4 + 3)
      have HP := Lib.hid ((((hown.set rfl (k * 4) (.int .i64 (k0 + 4 * k))).set rfl (k * 4 + 1) (.int .i64 (k0 + 4 * k + 1))).set rfl (k * 4 + 2) (.int .i64 (k0 + 4 * k + 2))).set rfl (k * 4 + 3) (.int .i64 (k0 + 4 * k + 3)))
      have HF := Lib.hid ((((hfr.set hg1 hg2 (k * 4) (.int .i64 (k0 + 4 * k))).set hg1 hg2 (k * 4 + 1) (.int .i64 (k0 + 4 * k + 1))).set hg1 hg2 (k * 4 + 2) (.int .i64 (k0 + 4 * k + 2))).set hg1 hg2 (k * 4 + 3) (.int .i64 (k0 + 4 * k + 3)))
      have hst : Hid (((((xs.set (k * 4) (.int .i64 (k0 + 4 * k))).set (k * 4 + 1) (.int .i64 (k0 + 4 * k + 1))).set (k * 4 + 2) (.int .i64 (k0 + 4 * k + 2))).set (k * 4 + 3) (.int .i64 (k0 + 4 * k + 3))).take ((k + 1) * 4) = cmdC ((upC k0 n).take (k + 1))) := by
        have hku : k < (upC k0 n).length := by rw [upC_length]; exact hlt
        refine Lib.hid (fm_take_step ccel4 (upC k0 n) k hku hrel.out _ ?_ (by simp; omega) ?_)
        · rw [List.take_set_of_le (by omega), List.take_set_of_le (by omega), List.take_set_of_le (by omega), List.take_set_of_le (by omega)]
        · intro j hj
          rw [upC_get]
          obtain rfl | rfl | rfl | rfl : j = 0 ∨ j = 1 ∨ j = 2 ∨ j = 3 := by omega
          · rw [List.getElem?_set_ne (by omega), List.getElem?_set_ne (by omega), List.getElem?_set_ne (by omega), Nat.add_zero, List.getElem?_set_self (by omega)]; rfl
          · rw [List.getElem?_set_ne (by omega), List.getElem?_set_ne (by omega), List.getElem?_set_self (by simp; omega)]; rfl
          · rw [List.getElem?_set_ne (by omega), List.getElem?_set_self (by simp; omega)]; rfl
          · rw [List.getElem?_set_self (by simp; omega)]; rfl
      have e0 : (k0 + 4 * (k : Int)) + 1 + 1 = k0 + 4 * k + 2 := by omega
      have e1 : (k0 + 4 * (k : Int)) + 2 + 1 = k0 + 4 * k + 3 := by omega
      clear hown hfr hrel
      go_wp2_with fail
      go_roundw
      case rel => exact ⟨k + 1, _, by omega, by go_num, by go_num, HP.out, hst, HF.out⟩
      case measure => simp [intOf]; omega
    · have : k = n := by omega
      subst this
      have hxs := hrel.out
      rw [List.take_of_length_le (by rw [hown.len]; omega), List.take_of_length_le (by rw [upC_length]; exact Nat.le_refl _)] at hxs
      subst hxs
      go_wp2_with fail
      go_ret
      exact ⟨rfl, hown, hfr⟩
theorem heldCommandS_any (A : Option Addr) (n c B : Nat) (k0 : Int) (w : World) (h : Sees w B 4 A n c (cmdC (upC k0 n))) (hk0 : 0 ≤ k0) (hk1 : k0 + 4 * n ≤ 9223372036854775807) :
    Calls Try.prog 43 #[.slice A n c, .int .i64 k0] w fun e w' => e = .returned (.int .i64 (k0 + 4 * n)) ∧ w = w' := by
  have hc1 := h.cap
  have hc2 := h.big
  go_enter Try.func43, Try.ntmps43
  go_wp2_with fail
  go_loop [1, 5] (fun t i => ∃ k : Nat, k ≤ n ∧ i = .int .i64 k ∧ t = .int .i64 (k0 + 4 * k)) (fun _ i => n - (intOf i).toNat)
  case atStart => exact ⟨0, Nat.zero_le _, rfl, by simp⟩
  case round =>
    obtain ⟨k, hk, rfl, rfl⟩ := hrel
    by_cases hlt : k < n
    · obtain ⟨b, o, rfl, _, hcell⟩ := h.cmd_at (by omega)
      have hx := hcell k (by rw [upC_length]; exact hlt)
      rw [upC_get] at hx
      obtain ⟨hx0, hx1, hx2, hx3⟩ := hx
      simp only at hx0 hx1 hx2 hx3
      have e0 : (k0 + 4 * (k : Int)) + 1 + 1 = k0 + 4 * k + 2 := by omega
      have e1 : (k0 + 4 * (k : Int)) + 2 + 1 = k0 + 4 * k + 3 := by omega
      clear hcell
      go_wp2_with fail
      go_round
      case rel => exact ⟨k + 1, by omega, by go_num, by go_num⟩
      case measure => simp [intOf]; omega
    · have : k = n := by omega
      subst this
      go_wp2_with fail
      go_ret
      exact ⟨rfl, rfl⟩
theorem szCommandS_any (A : Option Addr) (n c : Nat) (left : Int) (w : World) (hn : n ≤ 9223372036854775807) (h0 : 0 ≤ left) (h1 : left ≤ 9223372036854775807) :
    Calls Try.prog 15 #[.slice A n c, .int .i64 left] w fun e w' => e = .returned (.int .i64 (if left - n < 0 then -1 else left - n)) ∧ w = w' := by
  by_cases hl : left - n < 0
  · rw [if_pos hl]
    go_enter Try.func15, Try.ntmps15
    go_wp2_with fail
    go_ret
    exact ⟨rfl, rfl⟩
  · rw [if_neg hl]
    go_enter Try.func15, Try.ntmps15
    go_wp2_with fail
    go_ret
    exact ⟨rfl, rfl⟩
end Go.Proofs.Ythnebfcclkebeaa
