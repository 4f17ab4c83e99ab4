/-
  Walks: the reader of a code (l20Rd): odd and l20Open.
-/
import Derived.Test.YthnebfcclkebeaaP1
namespace Go.Proofs.Ythnebfcclkebeaa
open Go.RowKit

/-- What odd leaves: some answer; the reader at most one place further; nothing else has changed. -/
def RetOdd (w : World) (R p : Nat) (en : Ending) (w' : World) : Prop :=
  ∃ (b : Bool) (q : Nat), en = .returned (.bool b) ∧ (p ≤ q ∧ q ≤ p + 1) ∧ Rd w' R q ∧ Fr R (R + 1) w w' ∧ w'.heap.size = w.heap.size
theorem odd_any (R p : Nat) (m : Int) (w : World) (h : Rd w R p) (hp : p ≤ 1099511627776) (hm1 : -9223372036854775808 < m) (hm2 : m ≤ 9223372036854775807) :
    Calls Try.prog 72 #[.pointer (some ⟨R, 0, none⟩), .int .i64 m] w (RetOdd w R p) := by
  by_cases hm : 0 < m
  · go_enter Try.func72, Try.ntmps72
    go_wp2_with fail
    refine (pick_any _ _ _ _ h hp).mono ?_
    rintro e w1 ⟨k, rfl, hk, hr, hf, hs⟩
    have HS := Lib.hid hs
    clear hs hk
    go_wp2_with fail
    go_ret
    exact ⟨_, p + 1, rfl, ⟨by omega, by omega⟩, hr, hf, HS.out⟩
  · go_enter Try.func72, Try.ntmps72
    go_wp2_with fail
    go_ret
    exact ⟨_, p, rfl, ⟨by omega, by omega⟩, h, Fr.refl _ _ _, rfl⟩
/-- What l20Open leaves: a pointer to a new reader at place 0. -/
def RetRd (w : World) (en : Ending) (w' : World) : Prop := en = .returned (.pointer (some ⟨w.heap.size, 0, none⟩)) ∧ Rd w' w.heap.size 0 ∧ Below w.heap.size w w' ∧ w'.heap.size = w.heap.size + 1
theorem open_rd (A : Option Addr) (n c B : Nat) (bs : List Int) (w : World) (h : Sees w B 1 A n c (byts bs)) (hB : B ≤ w.heap.size) (hb : ∀ v ∈ bs, 0 ≤ v ∧ v ≤ 255) :
    RetRd w (.returned (.pointer (some ⟨w.heap.size, 0, none⟩))) (w.alloc (.cells #[.slice A n c, .int .i64 0] 79)) :=
  ⟨rfl, ⟨A, n, c, bs, heap_alloc_new w _, (h.below ((Below.refl B w).alloc hB _) (Nat.le_refl _)).more hB, hb⟩, (Below.refl _ _).alloc (Nat.le_refl _) _, by simp⟩
theorem open_any (A : Option Addr) (n c B : Nat) (bs : List Int) (w : World) (h : Sees w B 1 A n c (byts bs)) (hB : B ≤ w.heap.size) (hb : ∀ v ∈ bs, 0 ≤ v ∧ v ≤ 255) :
    Calls Try.prog 53 #[.slice A n c] w (RetRd w) := by
  have hc1 := h.cap
  have hc2 := h.big
  by_cases hn : 2000 < n
  · have h' := h.pre 2000 (by omega)
    rw [show (byts bs).take (2000 * 1) = byts (bs.take 2000) by simp [byts, List.map_take]] at h'
    have H := open_rd A 2000 c B (bs.take 2000) w h' hB (fun v hv => hb v (List.mem_of_mem_take hv))
    clear h'
    go_enter Try.func53, Try.ntmps53
    go_wp2
    go_ret
    exact H
  · have H := open_rd A n c B bs w h hB hb
    go_enter Try.func53, Try.ntmps53
    go_wp2
    go_ret
    exact H
end Go.Proofs.Ythnebfcclkebeaa
