/-
  Walks: the reader of a code (l20Rd): pick and odd.
-/
import Derived.Test.YthnebfcclkebeaaD1
namespace Go.Proofs.Ythnebfcclkebeaa
open Go.RowKit

def byts (l : List Int) : List Value := l.map fun n => Value.int .u8 n
/-- Block R holds a reader at place p, of some code that lies below R. -/
structure RdOf (w : World) (R p : Nat) (A : Option Addr) (n c : Nat) (bs : List Int) : Prop where
  blk : w.heap[R]? = some (.cells #[.slice A n c, .int .i64 p] 79 (0, 0))
  see : Sees w R 1 A n c (byts bs)
  bd : ∀ v ∈ bs, 0 ≤ v ∧ v ≤ 255
def Rd (w : World) (R p : Nat) : Prop := ∃ A n c bs, RdOf w R p A n c bs
/-- What pick leaves: a number below m (0 where m is below 1); the reader one place further; nothing else has changed. -/
def RetPick (w : World) (R p : Nat) (m : Int) (en : Ending) (w' : World) : Prop :=
  ∃ k : Int, en = .returned (.int .i64 k) ∧ (0 ≤ k ∧ (1 ≤ m → k < m) ∧ (m < 1 → k = 0)) ∧ Rd w' R (p + 1) ∧ Fr R (R + 1) w w' ∧ w'.heap.size = w.heap.size
theorem rd_set {w : World} {R p : Nat} {A : Option Addr} {n c : Nat} {bs : List Int} (h : RdOf w R p A n c bs) (q : Nat) : RdOf (w.setCell ⟨R, 1, none⟩ (.int .i64 q)) R q A n c bs :=
  ⟨by rw [heap_setCell_same w R 1 _ _ _ h.blk]; rfl, h.see.keep fun a ha => World.cell?_setCell_other w _ _ _ (fun e => by subst e; exact absurd ha (by simp)), h.bd⟩
theorem rd_drewN {w : World} {R p : Nat} {A : Option Addr} {n c : Nat} {bs : List Int} (h : RdOf w R p A n c bs) (q : Nat) : RdOf (w.drewN q) R p A n c bs := ⟨h.blk, h.see.drewN q, h.bd⟩

theorem xor_nonneg (x y : Int) (h0 : 0 ≤ x) (h1 : x < 9223372036854775808) (h2 : 0 ≤ y) (h3 : y < 9223372036854775808) : 0 ≤ bits .xor .i64 x y := by
  obtain ⟨a, rfl⟩ := Int.eq_ofNat_of_zero_le h0
  obtain ⟨b, rfl⟩ := Int.eq_ofNat_of_zero_le h2
  have hx : a ^^^ b < 2 ^ 63 := Nat.xor_lt_two_pow (by omega) (by omega)
  have of_nat : ∀ k : Nat, k < 9223372036854775808 → (BitVec.ofInt 64 (k : Int)).toNat = k := fun k hk => by
    rw [BitVec.ofInt_natCast, BitVec.toNat_ofNat]; exact Nat.mod_eq_of_lt (by omega)
  show 0 ≤ IntKind.i64.wrap ((BitVec.ofInt 64 (a : Int) ^^^ BitVec.ofInt 64 (b : Int)).toNat : Int)
  rw [BitVec.toNat_xor, of_nat a (by omega), of_nat b (by omega), IntKind.wrap_i64]
  omega
theorem pick_any (R p : Nat) (m : Int) (w : World) (h : Rd w R p) (hp : p ≤ 1099511627776) :
    Calls Try.prog 69 #[.pointer (some ⟨R, 0, none⟩), .int .i64 m] w (RetPick w R p m) := by
  obtain ⟨A, n, c, bs, h⟩ := h
  have hset := rd_set h (p + 1)
  have c0 : w.cell? ⟨R, 0, none⟩ = some (.slice A n c) := by rw [cell_of_row w R 0 _ _ _ h.blk]; rfl
  have c1 : w.cell? ⟨R, 1, none⟩ = some (.int .i64 p) := by rw [cell_of_row w R 1 _ _ _ h.blk]; rfl
  have f1 : w.frozen? ⟨R, 1, none⟩ = false := frozen_of_row w R 1 _ _ h.blk
  have hc1 := h.see.cap
  have hc2 := h.see.big
  have hfr : Fr R (R + 1) w (w.setCell ⟨R, 1, none⟩ (.int .i64 ((p + 1 : Nat) : Int))) := (Fr.refl R (R + 1) w).set (Nat.le_refl _) (Nat.lt_succ_self _) 1 _
  by_cases hm : m < 1
  · go_enter Try.func69, Try.ntmps69
    go_wp2
    go_ret
    exact ⟨0, rfl, ⟨by omega, by omega, by omega⟩, ⟨A, n, c, bs, hset⟩, hfr, by simp⟩
  · by_cases hn : n = 0
    · subst hn
      go_enter Try.func69, Try.ntmps69
      go_wp2
      go_ret
      exact ⟨0, rfl, ⟨by omega, by omega, by omega⟩, ⟨A, 0, c, bs, hset⟩, hfr, by simp⟩
    · have hn0 : ((n : Int) == 0) = false := by simp; exact hn
      have hln : bs.length = n := by have := h.see.len; simp [byts] at this; omega
      obtain ⟨b, o, rfl, hbR, hcell⟩ := h.see.at_ (by omega)
      by_cases hpn : p < n
      · have hx : w.cell? ⟨b, o + p, none⟩ = some (.int .u8 (bs[p]'(by omega))) := hcell p _ (by simp [byts, hln, hpn])
        have hv := h.bd (bs[p]'(by omega)) (List.getElem_mem _)
        generalize bs[p]'(by omega) = v at hx hv
        clear hcell hn
        have HL := Lib.hid hln
        clear hln
        go_enter Try.func69, Try.ntmps69
        go_wp2
        go_ret
        refine ⟨_, rfl, ⟨?_, fun _ => ?_, fun _ => by omega⟩, ⟨_, n, c, bs, hset⟩, hfr, by simp⟩
        · exact Int.emod_nonneg _ (by omega)
        · exact Int.emod_lt_of_pos _ (by omega)
      · have hi1 : p % n < n := Nat.mod_lt _ (by omega)
        have hi2 : (p * 7 + 3) % n < n := Nat.mod_lt _ (by omega)
        have hx : w.cell? ⟨b, o + p % n, none⟩ = some (.int .u8 (bs[p % n]'(by omega))) := hcell (p % n) _ (by simp [byts, hln, hi1])
        have hy : w.cell? ⟨b, o + (p * 7 + 3) % n, none⟩ = some (.int .u8 (bs[(p * 7 + 3) % n]'(by omega))) := hcell ((p * 7 + 3) % n) _ (by simp [byts, hln, hi2])
        have hv := h.bd (bs[p % n]'(by omega)) (List.getElem_mem _)
        have hu := h.bd (bs[(p * 7 + 3) % n]'(by omega)) (List.getElem_mem _)
        generalize bs[p % n]'(by omega) = v at hx hv
        generalize bs[(p * 7 + 3) % n]'(by omega) = u at hy hu
        clear hcell hn
        have HL := Lib.hid hln
        clear hln
        have i1 : 0 ≤ (p : Int) % (n : Int) := Int.emod_nonneg _ (by omega)
        have i2 : (p : Int) % (n : Int) < (n : Int) := Int.emod_lt_of_pos _ (by omega)
        have i3 : 0 ≤ ((p : Int) * 7 + 3) % (n : Int) := Int.emod_nonneg _ (by omega)
        have i4 : ((p : Int) * 7 + 3) % (n : Int) < (n : Int) := Int.emod_lt_of_pos _ (by omega)
        have i5 : 0 ≤ (p : Int) / (n : Int) := Int.ediv_nonneg (by omega) (by omega)
        have i6 : (p : Int) / (n : Int) ≤ (p : Int) := Int.ediv_le_self _ (by omega)
        go_enter Try.func69, Try.ntmps69
        go_wp2
        go_quiet (fail)
        go_wp2
        have hX : 0 ≤ bits .xor .i64 (v * 131 + u * 1117 + (p : Int) * 29 + (p : Int) / (n : Int) * 53) ((v * 131 + u * 1117 + (p : Int) * 29 + (p : Int) / (n : Int) * 53) / 64) :=
          xor_nonneg _ _ (by omega) (by omega) (by omega) (by omega)
        go_ret
        exact ⟨_, rfl, ⟨Int.tmod_nonneg _ hX, fun _ => Int.tmod_lt_of_pos _ (by omega), fun _ => by omega⟩, ⟨_, n, c, bs, rd_drewN hset _⟩, hfr.drewN _, by simp⟩
end Go.Proofs.Ythnebfcclkebeaa
