/-
  Walks: RingValid, RingCount and NewRing of the program and of the reference.
-/
import Derived.Test.YtmbfdjompgndiaaR1
namespace Go.Proofs.Ytmbfdjompgndiaa
open Go.RowKit
theorem rval_parts (r : Rng) : rval r = (win r.slots.length 2 16 && (win r.head 0 ((r.slots.length : Int) - 1) && win r.tail 0 ((r.slots.length : Int) - 1))) := by unfold rval; rw [Bool.and_assoc]
theorem specRingValid_any (A : Option Addr) (n c B : Nat) (d : List Int) (hd tl : Int) (w : World) (h : Sees w B 1 A n c (ints d)) :
    Calls Try.prog 18 #[.agg #[.slice A n c, .int .i64 hd, .int .i64 tl]] w (RetPure w (.bool (rval ⟨d, hd, tl⟩))) := by
  have hn := h.int
  have hc1 := h.cap
  have hc2 := h.big
  rw [rval_parts]
  simp only [hn]
  clear hn
  cases h1 : win (n : Int) 2 16 with
  | false =>
    go_enter Try.func18, Try.ntmps18
    go_wp2_with (go_at_call 47; refine (l1In_any _ _ _ _).mono ?_; rw [h1]; rintro e w' ⟨rfl, rfl⟩)
    go_ret
    exact ⟨ret_bool rfl, below_new _ _⟩
  | true =>
    have h1' := (win_iff _ _ _).1 h1
    have hn1 : (0 : Int) ≤ (n : Int) - 1 := by omega
    cases h2 : win hd 0 ((n : Int) - 1) with
    | false =>
      go_enter Try.func18, Try.ntmps18
      go_wp2_with fail
      refine (l1In_any _ _ _ _).mono ?_
      rw [h1]
      rintro e w' ⟨rfl, rfl⟩
      go_wp2_with fail
      refine (l1In_any _ _ _ _).mono ?_
      rw [h2]
      rintro e w' ⟨rfl, rfl⟩
      go_wp2_with fail
      go_ret
      exact ⟨ret_bool rfl, below_new _ _⟩
    | true =>
      go_enter Try.func18, Try.ntmps18
      go_wp2_with fail
      refine (l1In_any _ _ _ _).mono ?_
      rw [h1]
      rintro e w' ⟨rfl, rfl⟩
      go_wp2_with fail
      refine (l1In_any _ _ _ _).mono ?_
      rw [h2]
      rintro e w' ⟨rfl, rfl⟩
      go_wp2_with fail
      refine (l1In_any _ _ _ _).mono ?_
      rintro e w' ⟨rfl, rfl⟩
      go_wp2_with fail
      go_ret
      exact ⟨ret_bool rfl, below_new _ _⟩
theorem implRingValid_any (A : Option Addr) (n c B : Nat) (d : List Int) (hd tl : Int) (w : World) (h : Sees w B 1 A n c (ints d)) :
    Calls Try.prog 20 #[.agg #[.slice A n c, .int .i64 hd, .int .i64 tl]] w (RetPure w (.bool (rval ⟨d, hd, tl⟩))) := by
  have hn := h.int
  have hc1 := h.cap
  have hc2 := h.big
  rw [rval_parts]
  simp only [hn]
  clear hn
  cases h1 : win (n : Int) 2 16 with
  | false =>
    go_enter Try.func20, Try.ntmps20
    go_wp2_with (go_at_call 49; refine (within_any _ _ _ _).mono ?_; rw [h1]; rintro e w' ⟨rfl, rfl⟩)
    go_ret
    exact ⟨ret_bool rfl, below_new _ _⟩
  | true =>
    have h1' := (win_iff _ _ _).1 h1
    have hn1 : (0 : Int) ≤ (n : Int) - 1 := by omega
    cases h2 : win hd 0 ((n : Int) - 1) with
    | false =>
      go_enter Try.func20, Try.ntmps20
      go_wp2_with fail
      refine (within_any _ _ _ _).mono ?_
      rw [h1]
      rintro e w' ⟨rfl, rfl⟩
      go_wp2_with fail
      refine (within_any _ _ _ _).mono ?_
      rw [h2]
      rintro e w' ⟨rfl, rfl⟩
      go_wp2_with fail
      go_ret
      exact ⟨ret_bool rfl, below_new _ _⟩
    | true =>
      go_enter Try.func20, Try.ntmps20
      go_wp2_with fail
      refine (within_any _ _ _ _).mono ?_
      rw [h1]
      rintro e w' ⟨rfl, rfl⟩
      go_wp2_with fail
      refine (within_any _ _ _ _).mono ?_
      rw [h2]
      rintro e w' ⟨rfl, rfl⟩
      go_wp2_with fail
      refine (within_any _ _ _ _).mono ?_
      rintro e w' ⟨rfl, rfl⟩
      go_wp2_with fail
      go_ret
      exact ⟨ret_bool rfl, below_new _ _⟩
theorem ringCount_any (A : Option Addr) (n c B : Nat) (d : List Int) (hd tl : Int) (w : World) (h : Sees w B 1 A n c (ints d)) (hv : rval ⟨d, hd, tl⟩ = true) :
    Calls Try.prog 50 #[.agg #[.slice A n c, .int .i64 hd, .int .i64 tl]] w (RetPure w (.int .i64 (rcn ⟨d, hd, tl⟩))) := by
  obtain rfl := h.int
  have hc1 := h.cap
  have hv' := (rval_iff _).1 hv
  simp only at hv'
  unfold rcn
  simp only
  have hz : ((d.length : Int) == 0) = false := beq_eq_false_iff_ne.2 (by omega)
  clear hv
  go_enter Try.func50, Try.ntmps50
  go_wp2_with fail
  go_ret
  exact ⟨ret_int rfl, below_new _ _⟩
theorem specRingCount_any (A : Option Addr) (n c B : Nat) (d : List Int) (hd tl : Int) (w : World) (h : Sees w B 1 A n c (ints d)) (hB : B ≤ w.heap.size) :
    Calls Try.prog 26 #[.agg #[.slice A n c, .int .i64 hd, .int .i64 tl]] w (RetPure w (.int .i64 (rcount ⟨d, hd, tl⟩))) := by
  obtain rfl := h.int
  have hc1 := h.cap
  have h0 := h.below (below_new w (.cells #[.slice A d.length c, .int .i64 hd, .int .i64 tl] 27)) hB
  cases hv : rval ⟨d, hd, tl⟩ with
  | false =>
    rw [show rcount ⟨d, hd, tl⟩ = -1 by unfold rcount; rw [if_neg (by simp [hv])]]
    go_enter Try.func26, Try.ntmps26
    go_wp2_with fail
    refine (specRingValid_any _ _ _ _ _ _ _ _ h0).mono ?_
    rw [hv]
    rintro e w1 ⟨rfl, b1⟩
    go_wp2_with fail
    go_ret
    exact ⟨rfl, below_later (below_new _ _) b1 (Nat.le_refl _)⟩
  | true =>
    rw [show rcount ⟨d, hd, tl⟩ = rcn ⟨d, hd, tl⟩ by unfold rcount; rw [if_pos hv]]
    have hv' := (rval_iff _).1 hv
    simp only at hv'
    have hz : ((d.length : Int) == 0) = false := beq_eq_false_iff_ne.2 (by omega)
    go_enter Try.func26, Try.ntmps26
    go_wp2_with fail
    refine (specRingValid_any _ _ _ _ _ _ _ _ h0).mono ?_
    rw [hv]
    rintro e w1 ⟨rfl, b1⟩
    obtain ⟨r0, z1, B1⟩ := rows1 b1
    obtain ⟨m0, m1, m2⟩ := cells3 r0
    unfold rcn
    simp only
    go_wp2_with fail
    go_ret
    exact ⟨ret_int rfl, B1⟩
theorem implRingCount_any (A : Option Addr) (n c B : Nat) (d : List Int) (hd tl : Int) (w : World) (h : Sees w B 1 A n c (ints d)) (hB : B ≤ w.heap.size) :
    Calls Try.prog 27 #[.agg #[.slice A n c, .int .i64 hd, .int .i64 tl]] w (RetPure w (.int .i64 (rcount ⟨d, hd, tl⟩))) := by
  obtain rfl := h.int
  have hc1 := h.cap
  have h0 := h.below (below_new w (.cells #[.slice A d.length c, .int .i64 hd, .int .i64 tl] 27)) hB
  cases hv : rval ⟨d, hd, tl⟩ with
  | false =>
    rw [show rcount ⟨d, hd, tl⟩ = -1 by unfold rcount; rw [if_neg (by simp [hv])]]
    go_enter Try.func27, Try.ntmps27
    go_wp2_with fail
    refine (implRingValid_any _ _ _ _ _ _ _ _ h0).mono ?_
    rw [hv]
    rintro e w1 ⟨rfl, b1⟩
    go_wp2_with fail
    go_ret
    exact ⟨rfl, below_later (below_new _ _) b1 (Nat.le_refl _)⟩
  | true =>
    rw [show rcount ⟨d, hd, tl⟩ = rcn ⟨d, hd, tl⟩ by unfold rcount; rw [if_pos hv]]
    have hv' := (rval_iff _).1 hv
    simp only at hv'
    have hz : ((d.length : Int) == 0) = false := beq_eq_false_iff_ne.2 (by omega)
    go_enter Try.func27, Try.ntmps27
    go_wp2_with fail
    refine (implRingValid_any _ _ _ _ _ _ _ _ h0).mono ?_
    rw [hv]
    rintro e w1 ⟨rfl, b1⟩
    obtain ⟨r0, z1, B1⟩ := rows1 b1
    obtain ⟨m0, m1, m2⟩ := cells3 r0
    go_wp2_with fail
    refine (ringCount_any _ _ _ _ _ _ _ _ (h.below B1 hB) hv).mono ?_
    rintro e w2 ⟨rfl, b2⟩
    go_wp2_with fail
    go_ret
    exact ⟨rfl, below_later B1 b2 (Nat.le_refl _)⟩
def rnew (q : Int) : List Int := if win q 2 16 = true then List.replicate q.toNat 0 else []
theorem rnew_16 (q : Int) : (rnew q).length ≤ 16 := by
  unfold rnew
  split
  · next h => rw [win_iff] at h; rw [List.length_replicate]; omega
  · simp
theorem zeroes (n : Nat) : (madeCells #[Value.int .i64 0] n).toList = ints (List.replicate n 0) := by
  rw [toList_madeCells_one]; simp [ints]
theorem specNewRing_any (q : Int) (w : World) : Calls Try.prog 22 #[.int .i64 q] w (RetF w 3 1 (rnew q).length (ints (rnew q)) (ringV 0 0)) := by
  cases hw : win q 2 16 with
  | false =>
    have ht : rnew q = [] := by unfold rnew; rw [if_neg (by simp [hw])]
    rw [ht]
    clear ht
    go_enter Try.func22, Try.ntmps22
    go_wp2_with (go_at_call 47; refine (l1In_any _ _ _ _).mono ?_; rw [hw]; rintro e w' ⟨rfl, rfl⟩)
    refine bodyPost_ret (v := .agg #[.slice none 0 0, .int .i64 0, .int .i64 0]) (by simp [results, Try.results22, go_sem]) rfl ?_
    exact RetF.of (f := ringV 0 0) (Own.nil _ w.heap.size w.heap.size _ _) (Nat.le_refl _) (by simp <;> omega) (below_new _ _)
  | true =>
    have hn := (win_iff _ _ _).1 hw
    obtain ⟨m, rfl⟩ := Int.eq_ofNat_of_zero_le (show 0 ≤ q by omega)
    have ht : rnew (m : Int) = List.replicate m 0 := by unfold rnew; rw [if_pos hw, Int.toNat_natCast]
    rw [ht, List.length_replicate]
    clear ht
    have hm : m ≤ 16 := by omega
    have hmk := run_make_row' (P := Try.prog) 22 3 (.int .i64 0) 8 Try.underlying22 int_info rfl .i64 .i64 m (by omega) (by omega)
    go_enter Try.func22, Try.ntmps22
    go_wp2_with (go_at_call 47; refine (l1In_any _ _ _ _).mono ?_; rw [hw]; rintro e w' ⟨rfl, rfl⟩)
    refine bodyPost_ret (v := .agg #[.slice (some ⟨w.heap.size + 1, 0, none⟩) m m, .int .i64 0, .int .i64 0]) (by simp [results, Try.results22, go_sem]) rfl ?_
    have o := Own.made (w := w.alloc (.cells #[.slice (some ⟨w.heap.size + 1, 0, none⟩) m m, .int .i64 0, .int .i64 0] 27)) (e := 3) (cur := madeCells #[.int .i64 0] m) (s := 1) (n := m) (c := m) (xs := ints (List.replicate m 0)) (lo := w.heap.size) (hi := w.heap.size + 1 + 1) (by simp [size_madeCells]) (Nat.le_refl _) (by omega) (by rw [zeroes]; exact List.take_of_length_le (by simp [ints])) (by simp) (by simp)
    rw [World.size_alloc] at o
    exact RetF.of (f := ringV 0 0) o (Nat.le_refl _) (by simp) ((below_new _ _).alloc (Nat.le_of_lt (by simp)) _)
theorem implNewRing_any (q : Int) (w : World) : Calls Try.prog 23 #[.int .i64 q] w (RetF w 3 1 (rnew q).length (ints (rnew q)) (ringV 0 0)) := by
  cases hw : win q 2 16 with
  | false =>
    have ht : rnew q = [] := by unfold rnew; rw [if_neg (by simp [hw])]
    rw [ht]
    clear ht
    go_enter Try.func23, Try.ntmps23
    go_wp2_with (go_at_call 49; refine (within_any _ _ _ _).mono ?_; rw [hw]; rintro e w' ⟨rfl, rfl⟩)
    refine bodyPost_ret (v := .agg #[.slice none 0 0, .int .i64 0, .int .i64 0]) (by simp [results, Try.results23, go_sem]) rfl ?_
    exact RetF.of (f := ringV 0 0) (Own.nil _ w.heap.size w.heap.size _ _) (Nat.le_refl _) (by simp <;> omega) (below_new _ _)
  | true =>
    have hn := (win_iff _ _ _).1 hw
    obtain ⟨m, rfl⟩ := Int.eq_ofNat_of_zero_le (show 0 ≤ q by omega)
    have ht : rnew (m : Int) = List.replicate m 0 := by unfold rnew; rw [if_pos hw, Int.toNat_natCast]
    rw [ht, List.length_replicate]
    clear ht
    have hm : m ≤ 16 := by omega
    have hmk := run_make_row' (P := Try.prog) 22 3 (.int .i64 0) 8 Try.underlying22 int_info rfl .i64 .i64 m (by omega) (by omega)
    go_enter Try.func23, Try.ntmps23
    go_wp2_with (go_at_call 49; refine (within_any _ _ _ _).mono ?_; rw [hw]; rintro e w' ⟨rfl, rfl⟩)
    refine bodyPost_ret (v := .agg #[.slice (some ⟨w.heap.size + 1, 0, none⟩) m m, .int .i64 0, .int .i64 0]) (by simp [results, Try.results23, go_sem]) rfl ?_
    have o := Own.made (w := w.alloc (.cells #[.slice (some ⟨w.heap.size + 1, 0, none⟩) m m, .int .i64 0, .int .i64 0] 27)) (e := 3) (cur := madeCells #[.int .i64 0] m) (s := 1) (n := m) (c := m) (xs := ints (List.replicate m 0)) (lo := w.heap.size) (hi := w.heap.size + 1 + 1) (by simp [size_madeCells]) (Nat.le_refl _) (by omega) (by rw [zeroes]; exact List.take_of_length_le (by simp [ints])) (by simp) (by simp)
    rw [World.size_alloc] at o
    exact RetF.of (f := ringV 0 0) o (Nat.le_refl _) (by simp) ((below_new _ _).alloc (Nat.le_of_lt (by simp)) _)
end Go.Proofs.Ytmbfdjompgndiaa
