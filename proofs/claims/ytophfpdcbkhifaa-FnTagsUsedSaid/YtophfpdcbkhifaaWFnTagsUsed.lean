/-
  Walk: the law FnTagsUsed returns true.
-/
import Derived.Test.YtophfpdcbkhifaaT7
import Derived.Test.YtophfpdcbkhifaaA
namespace Go.Proofs.Ytophfpdcbkhifaa
open Go.RowKit
set_option maxHeartbeats 1000000 in
theorem law_FnTagsUsed (w : World) (A : Option Addr) (n c : Nat) (bs : List Int) (h : Sees w w.heap.size 1 A n c (byts bs)) (hb : ∀ v ∈ bs, 0 ≤ v ∧ v ≤ 255) :
    Calls Try.prog 5 #[.slice A n c] w (RetPure w (.bool true)) := by
  have hc1 := h.cap
  have hc2 := h.big
  by_cases hn : 1048576 < n
  · go_enter Try.func5, Try.ntmps5
    go_wp2_with fail
    go_ret
    exact ⟨rfl, Below.refl _ _⟩
  have hB : Below w.heap.size w w := Below.refl _ _
  go_enter Try.func5, Try.ntmps5
  go_wp2_with fail
  refine (drawTagsUsed_any _ _ _ _ _ _ h (Nat.le_refl _) hb).mono ?_
  rintro e w1 ⟨At, ct, d, rfl, ⟨ot, hd17⟩, b1⟩
  have s1 := b1.size
  replace hB := below_later hB b1 (Nat.le_refl _)
  clear b1
  have hc3 := ot.cap
  have hc4 := ot.big
  have hn2 := below_new w1 (.cells #[.slice At d.length ct] 24)
  replace ot := ot.below hn2
  replace hB := below_later hB hn2 (Nat.le_refl _)
  clear hn2
  have rt : (w1.alloc (.cells #[.slice At d.length ct] 24)).heap[w1.heap.size]? = some (.cells #[.slice At d.length ct] 24 (0, 0)) := heap_alloc_new _ _
  have mt0 := cells1 rt
  have s2 : w1.heap.size < (w1.alloc (.cells #[.slice At d.length ct] 24)).heap.size := by rw [World.size_alloc]; exact Nat.lt_succ_self _
  go_wp2_with fail
  generalize (w1.alloc (.cells #[.slice At d.length ct] 24)) = u2 at *
  refine (implTagsUsed_any _ _ _ _ _ _ ot.sees (by omega)).mono ?_
  rintro e w3 ⟨rfl, b3⟩
  have s3 := b3.size
  replace ot := ot.below b3
  replace rt := rowKeep rt b3
  clear mt0
  have mt0 := cells1 rt
  replace hB := below_later hB b3 (Nat.le_refl _)
  clear b3
  go_wp2_with fail
  refine (specTagsUsed_any _ _ _ _ _ _ ot.sees (by omega)).mono ?_
  rintro e w4 ⟨rfl, b4⟩
  have s4 := b4.size
  replace ot := ot.below b4
  replace rt := rowKeep rt b4
  clear mt0
  have mt0 := cells1 rt
  replace hB := below_later hB b4 (Nat.le_refl _)
  clear b4
  go_upto_region 8 with fail
  obtain ⟨m, hm⟩ : ∃ m : Nat, (m : Int) = (d.length : Int) / 2 := ⟨d.length / 2, by omega⟩
  rw [← hm]
  have hml : m ≤ d.length := by omega
  clear hm
  have h1 := ot.sees.pre m hml
  rw [bools_pre] at h1
  have ht := tcnt_le d
  have ht1 := tcnt_le (d.take m)
  have ht2 := tcnt_le (d.drop m)
  have hts := tcnt_split d m
  rw [List.length_take] at ht1
  rw [List.length_drop] at ht2
  have hsum : ((tcnt d : Int) == (tcnt (d.take m) : Int) + (tcnt (d.drop m) : Int)) = true := by rw [beq_iff_eq]; omega
  have e1 : IntKind.i64.wrap ((tcnt (d.take m) : Int) + (tcnt (d.drop m) : Int)) = (tcnt (d.take m) : Int) + (tcnt (d.drop m) : Int) := IntWalk.i64_in _ (by omega)
  have i1 : (0 : Int) ≤ (m : Int) := by omega
  have i2 : (m : Int) ≤ (d.length : Int) := by omega
  have i3 : (m : Int) ≤ (ct : Int) := by omega
  have i4 : (d.length : Int) ≤ (ct : Int) := by omega
  clear hts
  have HA : ∀ A' : Option Addr, (ct ≠ m → A' = Option.map (fun x => x.add m) At) → Sees w4 w1.heap.size 1 A' (d.length - m) (ct - m) (bools (d.drop m)) := fun A' hA => ot.sees.tailB m hml A' hA
  have HAH := Lib.hid HA
  clear HA
  by_cases hcm : ct = m
  · have h2 := HAH.out At (fun h => absurd hcm h)
    obtain rfl : m = ct := hcm.symm
    rw [Nat.sub_self, show d.length - m = 0 by omega] at h2
    go_region_held3 (fun w' => w'.cell? ⟨w1.heap.size, 0, none⟩ = some (.slice At d.length m)) (first | assumption | go_keep)
      (first
        | (go_at_call_of 17 (Value.agg #[Value.slice At m m]); refine (implTagsUsed_any At m m _ (d.take m) _ (h1.drewN 1) (by show w1.heap.size ≤ w4.heap.size; omega)).mono ?_; rintro e w6 ⟨rfl, b6⟩; replace b6 := drew_below b6; have s6 := b6.size; replace rt := rowKeep rt b6; clear mt0; have mt0 := cells1 rt; replace hB := below_later hB b6 (Nat.le_refl _); replace h2 := h2.below b6 (by omega); clear b6)
        | (go_at_call_of 17 (Value.agg #[Value.slice At 0 0]); refine (implTagsUsed_any _ 0 0 _ (d.drop m) _ h2 (by omega)).mono ?_; rintro e w7 ⟨rfl, b7⟩; have s7 := b7.size; replace rt := rowKeep rt b7; clear mt0; have mt0 := cells1 rt; replace hB := below_later hB b7 (Nat.le_refl _); clear b7)
        | (go_at_call 19; refine (alive_any _).mono ?_; rintro e w8 ⟨rfl, b8⟩; replace rt := rowKeep rt b8; clear mt0; have mt0 := cells1 rt; replace hB := below_later hB b8 (Nat.le_refl _); clear b8))
    go_wp2_with fail
    go_ret
    exact ⟨rfl, hB⟩
  · have h2 := HAH.out _ (fun _ => rfl)
    go_region_held3 (fun w' => w'.cell? ⟨w1.heap.size, 0, none⟩ = some (.slice At d.length ct)) (first | assumption | go_keep)
      (first
        | (go_at_call_of 17 (Value.agg #[Value.slice At m ct]); refine (implTagsUsed_any At m ct _ (d.take m) _ (h1.drewN 1) (by show w1.heap.size ≤ w4.heap.size; omega)).mono ?_; rintro e w6 ⟨rfl, b6⟩; replace b6 := drew_below b6; have s6 := b6.size; replace rt := rowKeep rt b6; clear mt0; have mt0 := cells1 rt; replace hB := below_later hB b6 (Nat.le_refl _); replace h2 := h2.below b6 (by omega); clear b6)
        | (go_at_call_of 17 (Value.agg #[Value.slice (Option.map (fun x => x.add m) At) (d.length - m) (ct - m)]); refine (implTagsUsed_any _ (d.length - m) (ct - m) _ (d.drop m) _ h2 (by omega)).mono ?_; rintro e w7 ⟨rfl, b7⟩; have s7 := b7.size; replace rt := rowKeep rt b7; clear mt0; have mt0 := cells1 rt; replace hB := below_later hB b7 (Nat.le_refl _); clear b7)
        | (go_at_call 19; refine (alive_any _).mono ?_; rintro e w8 ⟨rfl, b8⟩; replace rt := rowKeep rt b8; clear mt0; have mt0 := cells1 rt; replace hB := below_later hB b8 (Nat.le_refl _); clear b8))
    go_wp2_with fail
    go_ret
    exact ⟨rfl, hB⟩
end Go.Proofs.Ytophfpdcbkhifaa
