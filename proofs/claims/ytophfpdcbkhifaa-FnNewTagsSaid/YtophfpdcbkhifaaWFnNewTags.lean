/-
  Walk: the law FnNewTags returns true.
-/
import Derived.Test.YtophfpdcbkhifaaT7
import Derived.Test.YtophfpdcbkhifaaT4
import Derived.Test.YtophfpdcbkhifaaA
namespace Go.Proofs.Ytophfpdcbkhifaa
open Go.RowKit
set_option maxHeartbeats 1000000 in
theorem law_FnNewTags (w : World) (A : Option Addr) (n c : Nat) (bs : List Int) (h : Sees w w.heap.size 1 A n c (byts bs)) (hb : ∀ v ∈ bs, 0 ≤ v ∧ v ≤ 255) :
    Calls Try.prog 6 #[.slice A n c] w (RetPure w (.bool true)) := by
  have hc1 := h.cap
  have hc2 := h.big
  by_cases hn : 1048576 < n
  · go_enter Try.func6, Try.ntmps6
    go_wp2_with fail
    go_ret
    exact ⟨rfl, Below.refl _ _⟩
  have hB : Below w.heap.size w w := Below.refl _ _
  go_enter Try.func6, Try.ntmps6
  go_wp2_with fail
  refine (drawNewTags_any _ _ _ _ _ _ h (Nat.le_refl _) hb).mono ?_
  rintro e w1 ⟨q, rfl, hq, b1⟩
  have s1 := b1.size
  replace hB := below_later hB b1 (Nat.le_refl _)
  clear b1
  obtain ⟨m, hm0, hm16, hmw, hmn⟩ := tnew_some q
  have hml : (tnew q).length = m := by rw [hm0, tsome_length m 0 (Nat.zero_le _)]
  have hcI := fun W => implNewTags_any q W
  have hcS := fun W => specNewTags_any q W
  simp only [hml] at hcI hcS
  simp only [hm0] at hcI hcS
  clear hm0 hml
  replace hcI := Lib.hid hcI
  replace hcS := Lib.hid hcS
  go_wp2_with fail
  refine (hcI.out _).mono ?_
  rintro e w2 ⟨At, ct, rfl, ot, b2⟩
  have s2 := b2.size
  replace hB := below_later hB b2 (Nat.le_refl _)
  clear b2
  simp only [tagV]
  have hn3 := below_new w2 (.cells #[.slice At m ct] 24)
  replace ot := ot.below hn3
  replace hB := below_later hB hn3 (Nat.le_refl _)
  clear hn3
  have rt : (w2.alloc (.cells #[.slice At m ct] 24)).heap[w2.heap.size]? = some (.cells #[.slice At m ct] 24 (0, 0)) := heap_alloc_new _ _
  have mt0 := cells1 rt
  have s3 : w2.heap.size < (w2.alloc (.cells #[.slice At m ct] 24)).heap.size := by rw [World.size_alloc]; exact Nat.lt_succ_self _
  go_wp2_with fail
  generalize (w2.alloc (.cells #[.slice At m ct] 24)) = u3 at *
  go_region_held3 (fun w' => w'.cell? ⟨w2.heap.size, 0, none⟩ = some (.slice At m ct)) (first | assumption | go_keep)
    (first
      | (go_at_call 9; refine (hcS.out _).mono ?_; rintro e w4 ⟨Ay, cy, rfl, oy, b4⟩; replace b4 := drew_below b4; simp only [tagV]; have s4 := b4.size; replace ot := ot.below b4; replace rt := rowKeep rt b4; clear mt0; have mt0 := cells1 rt; replace hB := below_later hB b4 (Nat.le_refl _); clear b4)
      | (go_at_call 21; refine (sameTags_t _ _ _ _ _ _ _ _ _ _ ot.sees oy.sees (by omega) (by show _ ≤ _; omega)).mono ?_; rintro e w5 ⟨rfl, b5⟩; have s5 := b5.size; replace ot := ot.below b5; replace oy := oy.below b5; replace rt := rowKeep rt b5; clear mt0; have mt0 := cells1 rt; replace hB := below_later hB b5 (Nat.le_refl _); clear b5))
  clear oy
  go_wp2_with fail
  have hst : AtTake w w5 (w2.heap.size) m 0 := ⟨At, ct, _, _, rt, ot, .inl (by omega), by omega, hB, by omega, by omega⟩
  go_loopw [6] (fun i wr => ∃ k : Nat, k ≤ m ∧ i = .int .i64 k ∧ AtTake w wr (w2.heap.size) m k) (fun i _ => m - (intOf i).toNat)
  case atStart => exact ⟨0, Nat.zero_le _, rfl, hst⟩
  case round =>
    clear hst rt mt0 ot hB
    obtain ⟨k, hk, rfl, A1, c1, lo, hi, rt, ot, hd, hhi, hB, hgt, hgt2⟩ := hrel
    have mt0 := cells1 rt
    have hc := implTakeTag_any A1 m c1 hi (tsome m k) wr ot.sees hhi
    by_cases hkm : k < m
    · have hv : takeV (tsome m k) = fun v => .tuple #[.agg #[v], .int .i64 (k : Int), .bool true] := by unfold takeV; rw [tsome_tag m k hkm hm16, tsome_tok m k hk hm16, decide_eq_true hkm]
      rw [tsome_take m k hkm hm16, hv, tsome_length m (k + 1) hkm] at hc
      clear hv
      go_wp2_with fail
      refine hc.mono ?_
      rintro e w7 ⟨A2, c2, rfl, o2, b7⟩
      clear hc mt0
      have s7 := b7.size
      have r2 := rowKeep (rowKeep rt b7) (below_new w7 (.cells #[.slice A2 m c2] 24))
      have x2 : (w7.alloc (.cells #[.slice A2 m c2] 24)).heap[w7.heap.size]? = some (.cells #[.slice A2 m c2] 24 (0, 0)) := heap_alloc_new w7 _
      have p2 := o2.below (below_new w7 (.cells #[.slice A2 m c2] 24))
      have B2 := below_later (below_later hB b7 (Nat.le_refl _)) (below_new w7 (.cells #[.slice A2 m c2] 24)) (Nat.le_refl _)
      have z2 : w7.heap.size < (w7.alloc (.cells #[.slice A2 m c2] 24)).heap.size := by simp
      have m2 := cells1 r2
      have f2 := frzRow r2 0
      have n2 := cells1 x2
      have sw := hB.size
      have hst2 : AtTake w ((w7.alloc (.cells #[.slice A2 m c2] 24)).setCell ⟨w2.heap.size, 0, none⟩ (.slice A2 m c2)) (w2.heap.size) m (k + 1) :=
        ⟨A2, c2, _, _, set1 r2 _, p2.setOther _ _ (.inl (by show w2.heap.size < _; omega)), .inr (by omega), by rw [World.size_setCell]; omega, B2.setCell (by show _ ≤ w2.heap.size; omega) _, by omega, by rw [World.size_setCell]; omega⟩
      have HS := Lib.hid hst2
      clear hst2
      go_wp2_with fail
      go_roundw
      case rel => exact ⟨k + 1, by omega, by go_num, HS.out⟩
      case measure => simp [intOf]; omega
    · obtain rfl : k = m := by omega
      have hv : takeV (tsome k k) = fun v => .tuple #[.agg #[v], .int .i64 (-1), .bool false] := by unfold takeV ttag; rw [tsome_tok k k (Nat.le_refl _) hm16, decide_eq_false (Nat.lt_irrefl _)]; rfl
      rw [hv] at hc
      clear hv
      generalize ttake (tsome k k) = xs at hc
      go_wp2_with fail
      refine hc.mono ?_
      rintro e w7 ⟨A2, c2, rfl, o2, b7⟩
      have B2 := below_later (below_later hB b7 (Nat.le_refl _)) (below_new w7 (.cells #[.slice A2 xs.length c2] 24)) (Nat.le_refl _)
      clear hc mt0
      have hcase : q < 0 ∨ 16 < q ∨ (0 ≤ q ∧ q ≤ 16) := by omega
      rcases hcase with hc | hc | hc
      · have hk0 : k = 0 := hmn ((win_no _ _ _).2 (by omega))
        have hb : ((k : Int) != q) = true := bne_iff_ne.2 (by omega)
        clear hmn hmw hk0
        go_wp2_with fail
        refine (alive_any _).mono ?_
        rintro e w8 ⟨rfl, b8⟩
        go_wp2_with fail
        go_ret
        exact ⟨rfl, below_later B2 b8 (Nat.le_refl _)⟩
      · have hk0 : k = 0 := hmn ((win_no _ _ _).2 (by omega))
        have hb : ((k : Int) != q) = true := bne_iff_ne.2 (by omega)
        clear hmn hmw hk0
        go_wp2_with fail
        refine (alive_any _).mono ?_
        rintro e w8 ⟨rfl, b8⟩
        go_wp2_with fail
        go_ret
        exact ⟨rfl, below_later B2 b8 (Nat.le_refl _)⟩
      · have hk0 : (k : Int) = q := hmw ((win_iff _ _ _).2 (by omega))
        have hb : ((k : Int) != q) = false := by rw [bne_eq_false_iff_eq]; exact hk0
        have hz1 : decide (q < 0) = false := decide_eq_false (by omega)
        have hz2 : decide (16 < q) = false := decide_eq_false (by omega)
        obtain ⟨ha1, ha2⟩ := hc
        clear hmn hmw hk0
        go_wp2_with fail
        refine (alive_any _).mono ?_
        rintro e w8 ⟨rfl, b8⟩
        go_wp2_with fail
        go_ret
        exact ⟨rfl, below_later B2 b8 (Nat.le_refl _)⟩
end Go.Proofs.Ytophfpdcbkhifaa
