/-
  Walks: the answers' helpers of the laws (eqAnswerS, markAnswerS, heldAnswerS, szAnswerS).
-/
import Derived.Test.YthkiollagnjfaaaN1
import Derived.Deep.RegionHeld3
import Derived.Deep.DrawnRows
import Derived.IntWalk
namespace Go.Proofs.Ythkiollagnjfaaa
open Go.RowKit
set_option linter.unusedSimpArgs false
set_option linter.unusedVariables false
attribute [local go_sem ↓] Go.wp_at_zero Go.wp_at_succ
set_option maxHeartbeats 2000000 in
theorem eqAnswerS_any (A A' : Option Addr) (n c n' c' B B' : Nat) (x y : List (Int × Bool)) (w : World) (h : Sees w B 2 A n c (ansC x)) (h' : Sees w B' 2 A' n' c' (ansC y)) (hB : B ≤ w.heap.size) (hB' : B' ≤ w.heap.size) :
    Calls Try.prog 33 #[.slice A n c, .slice A' n' c'] w (RetPure w (.bool (decide (x = y)))) := by
  have hn := h.ans
  have hn' := h'.ans
  have hc1 := h.cap
  have hc2 := h.big
  have hc3 := h'.cap
  have hc4 := h'.big
  by_cases hnn : n = n'
  case neg =>
    have hd : decide (x = y) = false := by rw [decide_eq_false_iff_not]; rintro rfl; omega
    rw [hd]
    clear hd hn hn'
    go_enter Try.func33, Try.ntmps33
    go_wp2_with fail
    go_ret
    exact ⟨rfl, Below.refl _ _⟩
  case pos =>
  subst hnn
  have HN : Hid (x.length = n ∧ y.length = n) := Lib.hid ⟨hn, hn'⟩
  clear hn hn'
  go_enter Try.func33, Try.ntmps33
  go_wp2_with fail
  go_loopw [5] (fun i wr => ∃ (k : Nat), k ≤ n ∧ i = .int .i64 k ∧ Hid (x.take k = y.take k) ∧ Below w.heap.size w wr) (fun i _ => n - (intOf i).toNat)
  case atStart => exact ⟨0, Nat.zero_le _, rfl, rfl, Below.refl _ _⟩
  case round =>
    obtain ⟨k, hk, rfl, hrel, hb⟩ := hrel
    by_cases hlt : k < n
    · have hkx : k < x.length := by rw [HN.out.1]; exact hlt
      have hky : k < y.length := by rw [HN.out.2]; exact hlt
      have hsz := hb.size
      obtain ⟨b, o, rfl, hb1, hcell⟩ := (h.below hb hB).ans_at (by omega)
      obtain ⟨b', o', rfl, hb2, hcell'⟩ := (h'.below hb hB').ans_at (by omega)
      obtain ⟨hx0, hx1⟩ := hcell k hkx
      obtain ⟨hy0, hy1⟩ := hcell' k hky
      clear hcell hcell'
      have i1 : (0 : Int) ≤ (k : Int) := by omega
      have i2 : (k : Int) < (n : Int) := by omega
      have i3 : b < wr.heap.size := by omega
      have i4 : b' < wr.heap.size := by omega
      have hc := eqAnswer_any x[k] y[k]
      by_cases he : x[k] = y[k]
      · have hst := Lib.hid (gtake_step x y k hkx hky hrel.out he)
        rw [← he] at hy0 hy1 hc
        simp only [decide_true] at hc
        clear he
        generalize x[k] = e at *
        obtain ⟨v, q⟩ := e
        simp only [ansV] at hc hx0 hx1 hy0 hy1
        have HC := Lib.hid hc
        clear hc
        go_wp2_with fail
        go_region_held3 (fun w' => w'.cell? ⟨b, o + k * 2, none⟩ = some (.int .i64 v) ∧ w'.cell? ⟨b, o + k * 2 + 1, none⟩ = some (.bool q) ∧ w'.cell? ⟨b', o' + k * 2, none⟩ = some (.int .i64 v) ∧ w'.cell? ⟨b', o' + k * 2 + 1, none⟩ = some (.bool q)) (first | (refine ⟨?_, ?_, ?_, ?_⟩ <;> assumption) | go_keep) (first | (go_at_call 44; refine (HC.out _).mono ?_; rintro e w1 ⟨rfl, b1⟩; have hB1 := below_later (below_drewN hb 1) b1 (by show w.heap.size ≤ w.heap.size; omega); have j0 := (b1.cell (p := ⟨b, o + k * 2, none⟩) i3).trans hx0; have j1 := (b1.cell (p := ⟨b, o + k * 2 + 1, none⟩) i3).trans hx1; have j2 := (b1.cell (p := ⟨b', o' + k * 2, none⟩) i4).trans hy0; have j3 := (b1.cell (p := ⟨b', o' + k * 2 + 1, none⟩) i4).trans hy1))
        go_wp2_with fail
        go_roundw
        case rel => exact ⟨k + 1, by omega, by go_num, hst, hB1⟩
        case measure => simp [intOf]; omega
      · have hst := Lib.hid (gget_ne x y k hkx hky he)
        rw [decide_eq_false he] at hc
        clear he
        generalize x[k] = e at *
        generalize y[k] = e' at *
        obtain ⟨v, q⟩ := e
        obtain ⟨v', q'⟩ := e'
        simp only [ansV] at hc hx0 hx1 hy0 hy1
        have HC := Lib.hid hc
        clear hc
        go_wp2_with fail
        go_region_held3 (fun w' => w'.cell? ⟨b, o + k * 2, none⟩ = some (.int .i64 v) ∧ w'.cell? ⟨b, o + k * 2 + 1, none⟩ = some (.bool q) ∧ w'.cell? ⟨b', o' + k * 2, none⟩ = some (.int .i64 v') ∧ w'.cell? ⟨b', o' + k * 2 + 1, none⟩ = some (.bool q')) (first | (refine ⟨?_, ?_, ?_, ?_⟩ <;> assumption) | go_keep) (first | (go_at_call 44; refine (HC.out _).mono ?_; rintro e w1 ⟨rfl, b1⟩; have hB1 := below_later (below_drewN hb 1) b1 (by show w.heap.size ≤ w.heap.size; omega); have j0 := (b1.cell (p := ⟨b, o + k * 2, none⟩) i3).trans hx0; have j1 := (b1.cell (p := ⟨b, o + k * 2 + 1, none⟩) i3).trans hx1; have j2 := (b1.cell (p := ⟨b', o' + k * 2, none⟩) i4).trans hy0; have j3 := (b1.cell (p := ⟨b', o' + k * 2 + 1, none⟩) i4).trans hy1))
        go_wp2_with fail
        go_ret
        exact ⟨ret_bool hst.out, hB1⟩
    · go_wp2_with fail
      go_ret
      exact ⟨ret_bool (gtake_end x y k (by rw [HN.out.1]; omega) (by rw [HN.out.2]; omega) hrel.out), hb⟩
theorem eqAnswerS_t (A A' : Option Addr) (n c n' c' B B' : Nat) (x : List (Int × Bool)) (w : World) (h : Sees w B 2 A n c (ansC x)) (h' : Sees w B' 2 A' n' c' (ansC x)) (hB : B ≤ w.heap.size) (hB' : B' ≤ w.heap.size) :
    Calls Try.prog 33 #[.slice A n c, .slice A' n' c'] w (RetPure w (.bool true)) := by
  have := eqAnswerS_any A A' n c n' c' B B' x x w h h' hB hB'
  rw [decide_eq_true rfl] at this
  exact this
/-- the marks of a list of n answers from k on -/
def upA (k : Int) (n : Nat) : List (Int × Bool) := (List.range n).map fun (i : Nat) => (k + 2 * i, (k + 2 * i + 1) % 3 == 0)
theorem upA_length (k : Int) (n : Nat) : (upA k n).length = n := by simp [upA]
theorem upA_get (k : Int) (n i : Nat) (h : i < (upA k n).length) : (upA k n)[i] = (k + 2 * i, (k + 2 * i + 1) % 3 == 0) := by simp [upA]
set_option maxHeartbeats 1000000 in
theorem markAnswerS_any (A : Option Addr) (n c lo hi : Nat) (d : List (Int × Bool)) (k0 : Int) (w : World) (h : Own w lo hi 46 2 A n c (ansC d)) (hk0 : 0 ≤ k0) (hk1 : k0 + 2 * n ≤ 9223372036854775807) :
    Calls Try.prog 34 #[.slice A n c, .int .i64 k0] w (RetMk w lo hi 46 2 A n c (ansC (upA k0 n)) (k0 + 2 * n)) := by
  have hn := h.sees.ans
  have hc1 := h.cap
  have hc2 := h.big
  clear hn
  go_enter Try.func34, Try.ntmps34
  go_wp2_with fail
  go_loopw [1, 5] (fun t i wr => ∃ (k : Nat) (xs : List Value), k ≤ n ∧ i = .int .i64 k ∧ t = .int .i64 (k0 + 2 * k) ∧ Own wr lo hi 46 2 A n c xs ∧ Hid (xs.take (k * 2) = ansC ((upA k0 n).take k)) ∧ Fr lo hi w wr) (fun _ i _ => n - (intOf i).toNat)
  case atStart => exact ⟨0, _, Nat.zero_le _, rfl, by simp, h, Lib.hid (by simp [ansC]), Fr.refl _ _ _⟩
  case round =>
    obtain ⟨k, xs, hk, rfl, rfl, hown, hrel, hfr⟩ := hrel
    by_cases hlt : k < n
    · obtain ⟨g, rfl, hg1, hg2, hg3⟩ := hown.head (by omega)
      have hxl : k * 2 + 1 < xs.length := by have := hown.len; omega
      have y0 := hown.cell rfl (k * 2) _ (List.getElem?_eq_getElem (by omega))
      have y1 := hown.cell rfl (k * 2 + 1) _ (List.getElem?_eq_getElem hxl)
      have z0 := hown.frozen rfl (k * 2)
      have z1 := hown.frozen rfl (k * 2 + 1)
      have HP := Lib.hid ((hown.set rfl (k * 2) (.int .i64 (k0 + 2 * k))).set rfl (k * 2 + 1) (.bool ((k0 + 2 * k + 1) % 3 == 0)))
      have HF := Lib.hid ((hfr.set hg1 hg2 (k * 2) (.int .i64 (k0 + 2 * k))).set hg1 hg2 (k * 2 + 1) (.bool ((k0 + 2 * k + 1) % 3 == 0)))
      have hst : Hid (((xs.set (k * 2) (.int .i64 (k0 + 2 * k))).set (k * 2 + 1) (.bool ((k0 + 2 * k + 1) % 3 == 0))).take ((k + 1) * 2) = ansC ((upA k0 n).take (k + 1))) := by
        have hku : k < (upA k0 n).length := by rw [upA_length]; exact hlt
        refine Lib.hid (fm_take_step acel2 (upA k0 n) k hku hrel.out _ ?_ (by simp; omega) ?_)
        · rw [List.take_set_of_le (by omega), List.take_set_of_le (by omega)]
        · intro j hj
          rw [upA_get]
          obtain rfl | rfl : j = 0 ∨ j = 1 := by omega
          · rw [List.getElem?_set_ne (by omega), Nat.add_zero, List.getElem?_set_self (by omega)]; rfl
          · rw [List.getElem?_set_self (by simp; omega)]; rfl
      have e1 : (k0 + 2 * (k : Int) + 1).tmod 3 = (k0 + 2 * (k : Int) + 1) % 3 := Int.tmod_eq_emod_of_nonneg (by omega)
      clear hown hfr hrel
      go_wp2_with fail
      go_roundw
      case rel => exact ⟨k + 1, _, by omega, by go_num, by go_num, HP.out, hst, HF.out⟩
      case measure => simp [intOf]; omega
    · have : k = n := by omega
      subst this
      have hxs := hrel.out
      rw [List.take_of_length_le (by rw [hown.len]; omega), List.take_of_length_le (by rw [upA_length]; exact Nat.le_refl _)] at hxs
      subst hxs
      go_wp2_with fail
      go_ret
      exact ⟨rfl, hown, hfr⟩
theorem heldAnswerS_any (A : Option Addr) (n c B : Nat) (k0 : Int) (w : World) (h : Sees w B 2 A n c (ansC (upA k0 n))) (hk0 : 0 ≤ k0) (hk1 : k0 + 2 * n ≤ 9223372036854775807) :
    Calls Try.prog 35 #[.slice A n c, .int .i64 k0] w fun e w' => e = .returned (.int .i64 (k0 + 2 * n)) ∧ w = w' := by
  have hc1 := h.cap
  have hc2 := h.big
  go_enter Try.func35, Try.ntmps35
  go_wp2_with fail
  go_loop [1, 5] (fun t i => ∃ k : Nat, k ≤ n ∧ i = .int .i64 k ∧ t = .int .i64 (k0 + 2 * k)) (fun _ i => n - (intOf i).toNat)
  case atStart => exact ⟨0, Nat.zero_le _, rfl, by simp⟩
  case round =>
    obtain ⟨k, hk, rfl, rfl⟩ := hrel
    by_cases hlt : k < n
    · obtain ⟨b, o, rfl, _, hcell⟩ := h.ans_at (by omega)
      have hx := hcell k (by rw [upA_length]; exact hlt)
      rw [upA_get] at hx
      obtain ⟨hx0, hx1⟩ := hx
      simp only at hx0 hx1
      have e1 : (k0 + 2 * (k : Int) + 1).tmod 3 = (k0 + 2 * (k : Int) + 1) % 3 := Int.tmod_eq_emod_of_nonneg (by omega)
      clear hcell
      go_wp2_with fail
      go_round
      case rel => exact ⟨k + 1, by omega, by go_num, by go_num⟩
      case measure => simp [intOf]; omega
    · have : k = n := by omega
      subst this
      go_wp2_with fail
      go_ret
      exact ⟨rfl, rfl⟩
theorem szAnswerS_any (A : Option Addr) (n c : Nat) (left : Int) (w : World) (hn : n ≤ 9223372036854775807) (h0 : 0 ≤ left) (h1 : left ≤ 9223372036854775807) :
    Calls Try.prog 36 #[.slice A n c, .int .i64 left] w fun e w' => e = .returned (.int .i64 (if left - n < 0 then -1 else left - n)) ∧ w = w' := by
  by_cases hl : left - n < 0
  · rw [if_pos hl]
    go_enter Try.func36, Try.ntmps36
    go_wp2_with fail
    go_ret
    exact ⟨rfl, rfl⟩
  · rw [if_neg hl]
    go_enter Try.func36, Try.ntmps36
    go_wp2_with fail
    go_ret
    exact ⟨rfl, rfl⟩
end Go.Proofs.Ythkiollagnjfaaa
