/-
  Walk: the drawn arguments of ReadSectors: one statement draws its order and calls pick twice beside two new lists.
-/
import Derived.Test.YthjmjnekimkflaaP4
namespace Go.Proofs.Ythjmjnekimkflaa
open Go.RowKit
attribute [local go_sem ↓] Go.wp_at_zero Go.wp_at_succ

def RetDrawR (w : World) (en : Ending) (w' : World) : Prop :=
  ∃ A n c d, ∃ a m : Int, en = .returned (.tuple #[.slice A n c, .int .i64 a, .int .i64 m]) ∧ Own w' w.heap.size w'.heap.size 3 1 A n c (ints d) ∧ n ≤ 65 ∧ (-1 ≤ a ∧ a ≤ 66) ∧ (-1 ≤ m ∧ m ≤ 9223372036854775807) ∧ Below w.heap.size w w'
theorem pick7 (k : Int) (h0 : 0 ≤ k) (h1 : k < 7) : ∃ v : Int, (0 ≤ v ∧ v < 4) ∧ ∀ h : k.toNat < 7, ([Value.int .i64 0, .int .i64 0, .int .i64 0, .int .i64 0, .int .i64 1, .int .i64 2, .int .i64 3])[k.toNat]'h = .int .i64 v := by
  have : k = 0 ∨ k = 1 ∨ k = 2 ∨ k = 3 ∨ k = 4 ∨ k = 5 ∨ k = 6 := by omega
  rcases this with rfl | rfl | rfl | rfl | rfl | rfl | rfl <;> exact ⟨_, by decide, fun _ => rfl⟩
theorem pick4 (a k : Int) (ha : 0 ≤ a ∧ a < 6) (h0 : 0 ≤ k) (h1 : k < 4) : ∃ v : Int, (-1 ≤ v ∧ v ≤ 9223372036854775807) ∧ ∀ h : k.toNat < 4, ([Value.int .i64 a, .int .i64 0, .int .i64 (-1), .int .i64 9223372036854775807])[k.toNat]'h = .int .i64 v := by
  have : k = 0 ∨ k = 1 ∨ k = 2 ∨ k = 3 := by omega
  rcases this with rfl | rfl | rfl | rfl
  · exact ⟨a, by omega, fun _ => rfl⟩
  · exact ⟨0, by omega, fun _ => rfl⟩
  · exact ⟨-1, by omega, fun _ => rfl⟩
  · exact ⟨9223372036854775807, by omega, fun _ => rfl⟩
theorem Rd.drew {w : World} {R p : Nat} (h : Rd w R p) : Rd w.drew R p := h.keep fun _ _ => rfl
theorem Fr.drew {lo hi : Nat} {w w' : World} (h : Fr lo hi w w') : Fr lo hi w w'.drew := ⟨h.os, h.tape, h.output, h.size, h.block⟩
theorem drawR_end {w w1 w3 w' : World} {A : Option Addr} {n c : Nat} {d : List Int} {a m : Int} (hb1 : Below w.heap.size w w1) (hfr3 : Fr w.heap.size (w.heap.size + 1) w1 w3) (hRlt : w.heap.size < w1.heap.size)
    (hown3 : Own w3 w1.heap.size w3.heap.size 3 1 A n c (ints d)) (hn : n ≤ 65) (ha : -1 ≤ a ∧ a ≤ 66) (hm : -1 ≤ m ∧ m ≤ 9223372036854775807) (F : Fr w.heap.size (w.heap.size + 1) w3 w') :
    RetDrawR w (.returned (.tuple #[.slice A n c, .int .i64 a, .int .i64 m])) w' :=
  ⟨A, n, c, d, a, m, rfl, (hown3.keepOut F hRlt).wide hb1.size F.size, hn, ha, hm, (hfr3.trans F).below hb1 (Nat.le_refl _) (Nat.le_refl _)⟩
set_option maxHeartbeats 4000000 in
theorem drawRead_any (A : Option Addr) (n c B : Nat) (bs : List Int) (w : World) (h : Sees w B 1 A n c (byts bs)) (hB : B ≤ w.heap.size) (hb : ∀ v ∈ bs, 0 ≤ v ∧ v ≤ 255) :
    Calls Try.prog 28 #[.slice A n c] w (RetDrawR w) := by
  go_enter Try.func28, Try.ntmps28
  go_wp2_with fail
  refine (open_any _ _ _ _ _ _ h hB hb).mono ?_
  rintro e w1 ⟨rfl, hr, hb1, _⟩
  go_wp2_with fail
  refine (disk_any w.heap.size 0 16 12 _ hr (by omega) (by omega) (by omega) (by omega)).mono ?_
  rintro e w2 ⟨A2, n2, c2, d, q, rfl, hown2, hn2, hq2, hr2, hf2⟩
  go_wp2_with fail
  refine (pick_any _ _ _ _ hr2 (by omega)).mono ?_
  rintro e w3 ⟨k, rfl, hk, hr3, hf3, hs3⟩
  have hk' : 0 ≤ k ∧ k ≤ 66 := by have := hk.2.1 (by omega); omega
  have hw1 := hb1.size
  have hRlt := hr.lt
  have hown3 := (hown2.keepOut hf3 hRlt).wide (Nat.le_refl _) hf3.size
  have hfr3 := hf2.trans hf3
  have hR3 := hr3.lt
  have hq' : q ≤ 400 := by omega
  clear hk hs3 hown2 hf2 hf3 hr2 hr hb hB h hq2
  go_wp2_with fail
  go_region_with (first
    | (go_at_call_of 38 (Value.int IntKind.i64 6)
       refine (pick_any w.heap.size (q + 1) 6 _ ?_ (by omega)).mono ?_
       · first | exact hr3.drew | exact (hr3.alloc _).drew
       rintro e w4 ⟨k1, rfl, hk1, hr4, hf4, hs4⟩
       have hS4 : w4.heap.size ≤ w3.heap.size + 1 ∧ w3.heap.size ≤ w4.heap.size := by rw [hs4]; simp
       try have f4 := fun i => hf4.rule w3.heap.size i (by first | (simp only [World.size_alloc, World.size_drew]; omega) | (simp only [World.size_drew]; omega)) (by omega)
       have hk1' : 0 ≤ k1 ∧ k1 < 6 := ⟨hk1.1, hk1.2.1 (by omega)⟩
       clear hk1)
    | (go_at_call_of 38 (Value.int IntKind.i64 7)
       refine (pick_any w.heap.size (q + 1 + 1) 7 _ ?_ (by omega)).mono ?_
       · first | exact hr4 | exact hr4.alloc _ | exact (hr4.alloc _).alloc _
       rintro e w5 ⟨k2, rfl, hk2, hr5, hf5, hs5⟩
       try have f5 := fun i => hf5.rule w3.heap.size i (by have hq := hs4; simp only [World.size_alloc, World.size_drew] at hq ⊢; omega) (by omega)
       try have g5 := fun i => hf5.rule (w3.heap.size + 1) i (by have hq := hs4; simp only [World.size_alloc, World.size_drew] at hq ⊢; omega) (by omega)
       have hk2a := hk2.1
       have hk2b := hk2.2.1 (by omega)
       obtain ⟨v2, hv2, hx2⟩ := pick7 k2 hk2a hk2b
       obtain ⟨hv2a, hv2b⟩ := hv2
       obtain ⟨v1, hv1, hx1⟩ := pick4 k1 v2 hk1' hv2a hv2b
       clear hk2))
  all_goals
    go_wp2_with fail
    go_ret3
    refine drawR_end hb1 hfr3 hRlt hown3 hn2 (by omega) hv1 ?_
    repeat (first | exact Fr.refl _ _ _ | with_reducible refine Fr.alloc ?_ _ | with_reducible refine Fr.drew ?_ | with_reducible refine Fr.trans ?_ hf5 | with_reducible refine Fr.trans ?_ hf4)
end Go.Proofs.Ythjmjnekimkflaa
