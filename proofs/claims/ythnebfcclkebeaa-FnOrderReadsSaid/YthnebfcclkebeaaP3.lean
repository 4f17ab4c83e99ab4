/-
  Walks: l20Disk draws some list of numbers.
-/
import Derived.Test.YthnebfcclkebeaaP2
import Derived.Test.YthnebfcclkebeaaD3
namespace Go.Proofs.Ythnebfcclkebeaa
open Go.RowKit

theorem Rd.keep {w w' : World} {R p : Nat} (h : Rd w R p) (hk : ∀ k, k ≤ R → w'.heap[k]? = w.heap[k]?) : Rd w' R p := by
  obtain ⟨A, n, c, bs, h⟩ := h
  exact ⟨A, n, c, bs, by rw [hk R (Nat.le_refl _)]; exact h.blk, h.see.keep fun q hq => World.cell?_of_block (hk _ (Nat.le_of_lt hq)), h.bd⟩
theorem Rd.lt {w : World} {R p : Nat} (h : Rd w R p) : R < w.heap.size := by
  obtain ⟨A, n, c, bs, h⟩ := h
  exact (Array.getElem?_eq_some_iff.1 h.blk).1
theorem Rd.alloc {w : World} {R p : Nat} (h : Rd w R p) (o : Obj) : Rd (w.alloc o) R p := h.keep fun k hk => Below.heap_alloc w o k (by have := h.lt; omega)
theorem Rd.below {w w' : World} {R p : Nat} (h : Rd w R p) (hb : Below w.heap.size w w') : Rd w' R p := h.keep fun k hk => hb.block k (by have := h.lt; omega)
theorem Rd.fr {w w' : World} {R p lo hi : Nat} (h : Rd w R p) (hf : Fr lo hi w w') (hR : R < lo) : Rd w' R p := h.keep fun k hk => hf.block k (by have := h.lt; omega) (.inl (by omega))
/-- What l20Disk leaves: a new list of at most 'most' numbers; the reader some places further; nothing else has changed. -/
def RetDisk (w : World) (R p most : Nat) (en : Ending) (w' : World) : Prop :=
  ∃ A n c d q, en = .returned (.slice A n c) ∧ Own w' w.heap.size w'.heap.size 3 1 A n c (ints d) ∧ n ≤ most ∧ (p ≤ q ∧ q ≤ p + 400) ∧ Rd w' R q ∧ Fr R (R + 1) w w'
def IsDraw (w wr : World) (R p most : Nat) (j : Int) (A : Option Addr) (n c : Nat) : Prop :=
  ∃ d q, (Own wr w.heap.size wr.heap.size 3 1 A n c (ints d) ∧ (n : Int) + j ≤ most) ∧ (p ≤ q ∧ (q : Int) + 4 * j ≤ p + 1 + 4 * most) ∧ Rd wr R q ∧ Fr R (R + 1) w wr
theorem pick5 (a b k : Int) (h0 : 0 ≤ k) (h1 : k < 5) : ∃ v : Int, (#[Value.int .i64 0, .int .i64 1, .int .i64 a, .int .i64 b, .int .i64 255] : Array Value)[k.toNat]? = some (.int .i64 v) := by
  have : k = 0 ∨ k = 1 ∨ k = 2 ∨ k = 3 ∨ k = 4 := by omega
  rcases this with rfl | rfl | rfl | rfl | rfl <;> exact ⟨_, rfl⟩
theorem pick2 (a b k : Int) (h0 : 0 ≤ k) (h1 : k < 2) : ∃ v : Int, (#[Value.int .i64 a, .int .i64 b] : Array Value)[k.toNat]? = some (.int .i64 v) := by
  have : k = 0 ∨ k = 1 := by omega
  rcases this with rfl | rfl <;> exact ⟨_, rfl⟩
theorem zeros_ints (n : Nat) : (madeCells #[Value.int .i64 0] n).toList = ints (List.replicate n 0) := by
  rw [toList_madeCells_one]; simp [ints]
theorem Own.keepOut {w w' : World} {lo hi s n c R : Nat} {e : TypeId} {A : Option Addr} {xs : List Value} (h : Own w lo hi e s A n c xs) (hf : Fr R (R + 1) w w') (hR : R < lo) : Own w' lo hi e s A n c xs := h.fr hf (.inr (by omega))

set_option maxHeartbeats 1000000 in
theorem disk_any (R p most : Nat) (m : Int) (w : World) (h : Rd w R p) (hp : p ≤ 1000000000000) (hmost : most ≤ 64) (hm1 : -9223372036854775808 < m) (hm2 : m ≤ 9223372036854775807) :
    Calls Try.prog 54 #[.pointer (some ⟨R, 0, none⟩), .int .i64 most, .int .i64 m] w (RetDisk w R p 65) := by
  obtain ⟨i0, hi0, hz0, hz1, hz2⟩ := info_parts int_info
  have hRw := h.lt
  have h1 := h.alloc (.cells #[] 3)
  have hown1 : Own (w.alloc (.cells #[] 3)) w.heap.size (w.heap.size + 1) 3 1 (some ⟨w.heap.size, 0, none⟩) 0 0 (ints []) :=
    Own.made (by simp) (Nat.le_refl _) (by omega) rfl (Nat.le_refl _) (by omega)
  have hfr1 : Fr R (R + 1) w (w.alloc (.cells #[] 3)) := (Fr.refl _ _ _).alloc _
  go_enter Try.func54, Try.ntmps54
  go_wp2_with fail
  refine (pick_any _ _ _ _ h1 (by omega)).mono ?_
  rintro e w2 ⟨k0, rfl, hk0, hr2, hf2, hs2⟩
  have hs2' : w2.heap.size = w.heap.size + 1 := by rw [hs2]; simp
  have hown2 := (hown1.keepOut hf2 hRw).wide (Nat.le_refl _) (show w.heap.size + 1 ≤ w2.heap.size by omega)
  have hst : IsDraw w w2 R p most k0 (some ⟨w.heap.size, 0, none⟩) 0 0 := ⟨[], p + 1, ⟨hown2, by omega⟩, ⟨by omega, by omega⟩, hr2, hfr1.trans hf2⟩
  have hk : 0 ≤ k0 ∧ k0 ≤ most := by omega
  clear hk0 hr2 hf2 hs2 hs2' hown2 hfr1 hown1 h1
  go_wp2_with fail
  go_loopw [7, 8] (fun t i wr => ∃ (j : Int) (A : Option Addr) (n c : Nat), (0 ≤ j ∧ j ≤ most) ∧ i = .int .i64 j ∧ t = .slice A n c ∧ IsDraw w wr R p most j A n c) (fun _ i _ => (intOf i).toNat)
  case atStart => exact ⟨k0, _, 0, 0, hk, rfl, rfl, hst⟩
  case round =>
    obtain ⟨j, A, n, c, hj, rfl, rfl, hd⟩ := hrel
    by_cases hj0 : 0 < j
    · obtain ⟨d, q, ⟨hown, hnj⟩, hq, hr, hf⟩ := hd
      go_wp2_with fail
      refine (pick_any _ _ _ _ hr (by omega)).mono ?_
      rintro e w3 ⟨k1, rfl, hk1, hr3, hf3, hs3⟩
      have HS3 := Lib.hid hs3
      clear hs3 hk1
      go_wp2_with fail
      refine (pick_any _ _ _ _ hr3 (by omega)).mono ?_
      rintro e w4 ⟨k2, rfl, hk2, hr4, hf4, hs4⟩
      have HS4 := Lib.hid hs4
      clear hs4 hk2
      go_wp2_with fail
      refine (pick_any _ _ _ _ (hr4.alloc _) (by omega)).mono ?_
      rintro e w5 ⟨k3, rfl, hk3, hr5, hf5, hs5⟩
      have hsz5 : w5.heap.size = w4.heap.size + 1 := by rw [hs5]; simp
      have h34 : w4.heap.size = wr.heap.size := HS4.out.trans HS3.out
      obtain ⟨v, hv⟩ := pick5 k1 k2 k3 hk3.1 (hk3.2.1 (by omega))
      have hb3 := hk3.2.1 (by omega)
      have hRw4 := hr4.lt
      have hx : w5.cell? ⟨w4.heap.size, k3.toNat, none⟩ = some (.int .i64 v) := by
        rw [hf5.cell (p := ⟨w4.heap.size, k3.toNat, none⟩) (by simp) (.inr (by show R + 1 ≤ w4.heap.size; omega))]
        rw [World.cell?_alloc_new]; exact hv
      have hfr5 : Fr R (R + 1) wr w5 := ((hf3.trans hf4).alloc _).trans hf5
      have hown5 := hown.keepOut hfr5 hRw
      have hown6 : Own (w5.alloc (.cells #[.int .i64 v] 3)) w.heap.size wr.heap.size 3 1 A n c (ints d) := hown5.below ((Below.refl _ _).alloc (Nat.le_refl _) _)
      have hsz0 := hf.size
      have hc1 := hown.cap
      have hsz5' : wr.heap.size ≤ w5.heap.size := by omega
      have hk3' := hk3.1
      clear hv hr3 hr4 hf3 hf4 hf5 hs5 hsz5 hk3 HS3 HS4 h34 hown5 hown
      go_wp2_with (at_builtin; refine wpList_app _ rfl (.tmp 18) (.tmp 28) _ rfl 3 i0 (.int .i64 0) 1 8 Try.underlying22 hi0 hz0 hz1 hz2 rfl (by decide) w.heap.size wr.heap.size A n c (ints d) rfl hown6 _ _ 1 1 [.int .i64 v] rfl (Sees.one w5 3 (.int .i64 v)) (one_int v) (by omega) (by omega) (by simp; omega) ?_; intro A2 c2 w6 hown7 hfr6)
      have hst2 : IsDraw w w6 R p most (j - 1) A2 (n + 1) c2 := by
        have hrw : Fr R (R + 1) w5 (w5.alloc (.cells #[.int .i64 v] 3)) := (Fr.refl _ _ _).alloc _
        refine ⟨d ++ [v], q + 3, ⟨by rw [show ints (d ++ [v]) = ints d ++ [.int .i64 v] by simp [ints]]; exact hown7, by omega⟩, ⟨by omega, by omega⟩, (hr5.alloc _).fr hfr6 hRw, ?_⟩
        exact ⟨hfr6.os.trans (hrw.os.trans (hfr5.os.trans hf.os)), hfr6.tape.trans (hrw.tape.trans (hfr5.tape.trans hf.tape)), hfr6.output.trans (hrw.output.trans (hfr5.output.trans hf.output)), by have := hfr6.size; simp at this; omega,
          fun k hk hh => (hfr6.block k (by simp; omega) (.inl (by omega))).trans ((hrw.block k (by omega) hh).trans ((hfr5.block k (by omega) hh).trans (hf.block k hk hh)))⟩
      clear hown7 hfr6 hr5 hfr5 hown6 hf hr hx
      go_wp2
      go_roundw
      case rel => exact ⟨j - 1, A2, n + 1, c2, by omega, by go_num, rfl, hst2⟩
      case measure => simp [intOf]; omega
    · obtain ⟨d, q, ⟨hown, hnj⟩, hq, hr, hf⟩ := hd
      have hc1 := hown.cap
      have hc2 := hown.big
      have hnm : n ≤ 64 := by omega
      have hq' : q ≤ p + 300 := by omega
      have hq0 : p ≤ q := hq.1
      clear hst hk hnj hq hj
      go_wp2_with fail
      refine (odd_any _ _ _ _ hr (by omega) hm1 hm2).mono ?_
      rintro e w3 ⟨b, q3, rfl, hq3, hr3, hf3, hs3⟩
      have hs3' : w3.heap.size ≤ wr.heap.size ∧ wr.heap.size ≤ w3.heap.size := by omega
      have hown3 := (hown.keepOut hf3 hRw).wide (Nat.le_refl _) hs3'.2
      have hfr3 := hf.trans hf3
      clear hs3 hown hf hf3 hr
      cases b with
      | false =>
        go_wp2_with fail
        go_ret
        exact ⟨A, n, c, d, q3, rfl, hown3, by omega, by omega, hr3, hfr3⟩
      | true =>
        have fin : ∀ (w4 : World) (q4 : Nat), q4 ≤ q3 + 1 ∧ q3 ≤ q4 → Rd w4 R q4 → Fr R (R + 1) w w4 →
            RetDisk w R p 65 (.returned (.slice (some ⟨w4.heap.size, 0, none⟩) 65 65)) (w4.alloc (.cells (madeCells #[.int .i64 0] 65) 3)) := by
          intro w4 q4 hq4 hr4 hf4
          have := hf4.size
          exact ⟨_, 65, 65, List.replicate 65 0, q4, rfl, Own.made (by simp [size_madeCells]) (Nat.le_refl _) (by omega) (by rw [zeros_ints, List.take_of_length_le (by simp [ints])]) (by omega) (by simp), Nat.le_refl _, by omega, hr4.alloc _, hf4.alloc _⟩
        have HF := Lib.hid fin
        clear fin
        have hmk := run_make_row' (P := Try.prog) 22 3 (.int .i64 0) 8 Try.underlying22 int_info rfl .i64 .i64 65 (by omega) (by omega)
        have hmk' : ∀ w : World, (Instr.makeSlice 22 (.int .i64 65) (.int .i64 65)).run Try.prog w = .ok (.slice (some ⟨w.heap.size, 0, none⟩) 65 65) (w.alloc (.cells (madeCells #[.int .i64 0] 65) 3)) := fun w => hmk w
        clear hmk
        by_cases hn : 0 < n
        · go_wp2_with fail
          refine (pick_any _ _ _ _ hr3 (by omega)).mono ?_
          rintro e w4 ⟨k4, rfl, hk4, hr4, hf4, hs4⟩
          have hfr4 := hfr3.trans hf4
          have hs4' : w4.heap.size ≤ w3.heap.size ∧ w3.heap.size ≤ w4.heap.size := by omega
          have hown4 := (hown3.keepOut hf4 hRw).wide (Nat.le_refl _) hs4'.2
          clear hs4 hf4
          by_cases hk0 : k4 = 0
          · subst hk0
            go_wp2_with fail
            refine (pick_any _ _ _ _ hr4 (by omega)).mono ?_
            rintro e w5 ⟨k5, rfl, hk5, hr5, hf5, hs5⟩
            have hk5' := hk5.2.1 (by omega)
            have hk50 := hk5.1
            have hs5' : w5.heap.size ≤ w4.heap.size ∧ w4.heap.size ≤ w5.heap.size := by omega
            have hown5 := (hown4.keepOut hf5 hRw).wide (Nat.le_refl _) hs5'.2
            have hfr5 := hfr4.trans hf5
            have hr5' := hr5.alloc (.cells #[.int .i64 (-1), .int .i64 256] 3)
            clear hs5 hf5 hk5 hown4 hfr4 hr4 hk4 hown3 hfr3 hr3
            go_wp2_with fail
            refine (pick_any _ _ _ _ hr5' (by omega)).mono ?_
            rintro e w6 ⟨k6, rfl, hk6, hr6, hf6, hs6⟩
            have hk6' := hk6.2.1 (by omega)
            have hk60 := hk6.1
            obtain ⟨v, hv⟩ := pick2 (-1) 256 k6 hk60 hk6'
            have hRw5 := hr5.lt
            have hx : w6.cell? ⟨w5.heap.size, k6.toNat, none⟩ = some (.int .i64 v) := by
              rw [hf6.cell (p := ⟨w5.heap.size, k6.toNat, none⟩) (by simp) (.inr (by show R + 1 ≤ w5.heap.size; omega))]
              rw [World.cell?_alloc_new]; exact hv
            have hs6' : w6.heap.size ≤ w5.heap.size + 1 ∧ w5.heap.size + 1 ≤ w6.heap.size := by rw [hs6]; simp
            have hfr6 := (hfr5.alloc (.cells #[.int .i64 (-1), .int .i64 256] 3)).trans hf6
            have hown6 : Own w6 w.heap.size w6.heap.size 3 1 A n c (ints d) :=
              ((hown5.below ((Below.refl _ _).alloc (Nat.le_refl _) (.cells #[.int .i64 (-1), .int .i64 256] 3))).keepOut hf6 hRw).wide (Nat.le_refl _) (by omega)
            obtain ⟨g, rfl, hg1, hg2, hg3⟩ := hown6.head hn
            have hln := hown6.sees.int
            have hjd : k5.toNat < d.length := by omega
            have hc := hown6.cell rfl k5.toNat _ (ints_get d k5.toNat hjd)
            have hfz := hown6.frozen rfl k5.toNat
            have hown7 := hown6.set rfl k5.toNat (.int .i64 v)
            rw [ints_set] at hown7
            have hfr7 : Fr R (R + 1) w (w6.setCell ⟨g, k5.toNat, none⟩ (.int .i64 v)) :=
              ⟨hfr6.os, hfr6.tape, hfr6.output, by rw [World.size_setCell]; exact hfr6.size, fun k hk hh => (heap_setCell_other w6 ⟨g, k5.toNat, none⟩ k _ (by show k ≠ g; omega)).trans (hfr6.block k hk hh)⟩
            have hr7 : Rd (w6.setCell ⟨g, k5.toNat, none⟩ (.int .i64 v)) R (q3 + 1 + 1 + 1) := hr6.keep fun k hk => heap_setCell_other w6 ⟨g, k5.toNat, none⟩ k _ (by show k ≠ g; omega)
            generalize d[k5.toNat] = old at hc
            clear hown6 hfr6 hown5 hfr5 hr5 hr5' hf6 hs6 hv hk6 hr6 hmk'
            go_wp2_with fail
            go_ret
            exact ⟨_, n, c, _, q3 + 1 + 1 + 1, rfl, by rw [World.size_setCell]; exact hown7, by omega, by omega, hr7, hfr7⟩
          · have hb : (k4 == 0) = false := by simpa using hk0
            clear hk0
            go_wp2_with fail
            go_ret
            exact HF.out _ _ (by omega) hr4 hfr4
        · go_wp2_with fail
          go_ret
          exact HF.out _ _ (by omega) hr3 hfr3
end Go.Proofs.Ythnebfcclkebeaa
