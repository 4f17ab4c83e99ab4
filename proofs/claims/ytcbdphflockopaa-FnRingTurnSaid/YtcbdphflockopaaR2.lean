/-
  Walks: RingValid, RingCount and NewRing of the program and of the reference.
-/
import Derived.Test.YtcbdphflockopaaR1
namespace Go.Proofs.Ytcbdphflockopaa
open Go.RowKit
theorem rval_parts (r : Rng) : rval r = (win r.slots.length 2 16 && (win r.head 0 ((r.slots.length : Int) - 1) && win r.tail 0 ((r.slots.length : Int) - 1))) := by unfold rval; rw [Bool.and_assoc]
theorem specRingValid_any (A : Option Addr) (n c B : Nat) (d : List Int) (hd tl : Int) (w : World) (h : Sees w B 1 A n c (ints d)) :
    Calls Try.prog 16 #[.agg #[.slice A n c, .int .i64 hd, .int .i64 tl]] w (RetPure w (.bool (rval ⟨d, hd, tl⟩))) := by
  have hn := h.int
  have hc1 := h.cap
  have hc2 := h.big
  rw [rval_parts]
  simp only [hn]
  clear hn
  cases h1 : win (n : Int) 2 16 with
  | false =>
    go_enter Try.func16, Try.ntmps16
    go_wp2_with (go_at_call 25; refine (l1In_any _ _ _ _).mono ?_; rw [h1]; rintro e w' ⟨rfl, rfl⟩)
    go_ret
    exact ⟨ret_bool rfl, below_new _ _⟩
  | true =>
    have h1' := (win_iff _ _ _).1 h1
    have hn1 : (0 : Int) ≤ (n : Int) - 1 := by omega
    cases h2 : win hd 0 ((n : Int) - 1) with
    | false =>
      go_enter Try.func16, Try.ntmps16
      go_wp2_with fail
      refine (l1In_any _ _ _ _).mono ?_
      rw [h1]
      rintro e w' ⟨rfl, rfl⟩
      go_wp2_with fail
      refine (l1In_any _ _ _ _).mono ?_
      rw [h2]
      rintro e w' ⟨rfl, rfl⟩
      go_wp2_with fail
      go_ret
      exact ⟨ret_bool rfl, below_new _ _⟩
    | true =>
      go_enter Try.func16, Try.ntmps16
      go_wp2_with fail
      refine (l1In_any _ _ _ _).mono ?_
      rw [h1]
      rintro e w' ⟨rfl, rfl⟩
      go_wp2_with fail
      refine (l1In_any _ _ _ _).mono ?_
      rw [h2]
      rintro e w' ⟨rfl, rfl⟩
      go_wp2_with fail
      refine (l1In_any _ _ _ _).mono ?_
      rintro e w' ⟨rfl, rfl⟩
      go_wp2_with fail
      go_ret
      exact ⟨ret_bool rfl, below_new _ _⟩
theorem implRingValid_any (A : Option Addr) (n c B : Nat) (d : List Int) (hd tl : Int) (w : World) (h : Sees w B 1 A n c (ints d)) :
    Calls Try.prog 14 #[.agg #[.slice A n c, .int .i64 hd, .int .i64 tl]] w (RetPure w (.bool (rval ⟨d, hd, tl⟩))) := by
  have hn := h.int
  have hc1 := h.cap
  have hc2 := h.big
  rw [rval_parts]
  simp only [hn]
  clear hn
  cases h1 : win (n : Int) 2 16 with
  | false =>
    go_enter Try.func14, Try.ntmps14
    go_wp2_with (go_at_call 23; refine (within_any _ _ _ _).mono ?_; rw [h1]; rintro e w' ⟨rfl, rfl⟩)
    go_ret
    exact ⟨ret_bool rfl, below_new _ _⟩
  | true =>
    have h1' := (win_iff _ _ _).1 h1
    have hn1 : (0 : Int) ≤ (n : Int) - 1 := by omega
    cases h2 : win hd 0 ((n : Int) - 1) with
    | false =>
      go_enter Try.func14, Try.ntmps14
      go_wp2_with fail
      refine (within_any _ _ _ _).mono ?_
      rw [h1]
      rintro e w' ⟨rfl, rfl⟩
      go_wp2_with fail
      refine (within_any _ _ _ _).mono ?_
      rw [h2]
      rintro e w' ⟨rfl, rfl⟩
      go_wp2_with fail
      go_ret
      exact ⟨ret_bool rfl, below_new _ _⟩
    | true =>
      go_enter Try.func14, Try.ntmps14
      go_wp2_with fail
      refine (within_any _ _ _ _).mono ?_
      rw [h1]
      rintro e w' ⟨rfl, rfl⟩
      go_wp2_with fail
      refine (within_any _ _ _ _).mono ?_
      rw [h2]
      rintro e w' ⟨rfl, rfl⟩
      go_wp2_with fail
      refine (within_any _ _ _ _).mono ?_
      rintro e w' ⟨rfl, rfl⟩
      go_wp2_with fail
      go_ret
      exact ⟨ret_bool rfl, below_new _ _⟩
theorem ringCount_any (A : Option Addr) (n c B : Nat) (d : List Int) (hd tl : Int) (w : World) (h : Sees w B 1 A n c (ints d)) (hv : rval ⟨d, hd, tl⟩ = true) :
    Calls Try.prog 19 #[.agg #[.slice A n c, .int .i64 hd, .int .i64 tl]] w (RetPure w (.int .i64 (rcn ⟨d, hd, tl⟩))) := by
  obtain rfl := h.int
  have hc1 := h.cap
  have hv' := (rval_iff _).1 hv
  simp only at hv'
  unfold rcn
  simp only
  have hz : ((d.length : Int) == 0) = false := beq_eq_false_iff_ne.2 (by omega)
  clear hv
  go_enter Try.func19, Try.ntmps19
  go_wp2_with fail
  go_ret
  exact ⟨ret_int rfl, below_new _ _⟩
def rnew (q : Int) : List Int := if win q 2 16 = true then List.replicate q.toNat 0 else []
theorem rnew_16 (q : Int) : (rnew q).length ≤ 16 := by
  unfold rnew
  split
  · next h => rw [win_iff] at h; rw [List.length_replicate]; omega
  · simp
theorem zeroes (n : Nat) : (madeCells #[Value.int .i64 0] n).toList = ints (List.replicate n 0) := by
  rw [toList_madeCells_one]; simp [ints]
end Go.Proofs.Ytcbdphflockopaa
