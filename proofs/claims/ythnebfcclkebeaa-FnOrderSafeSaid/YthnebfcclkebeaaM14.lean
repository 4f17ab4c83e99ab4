/-
  Words for a law that holds several results of ExecuteBatch (spans of a disk and its rows), and bounds.
-/
import Derived.Test.YthnebfcclkebeaaM12
import Derived.Test.YthnebfcclkebeaaM13
namespace Go.Proofs.Ythnebfcclkebeaa
open Go.RowKit
set_option linter.unusedSimpArgs false
set_option linter.unusedVariables false
theorem Sees.frB {w w' : World} {B s n c lo hi : Nat} {A : Option Addr} {xs : List Value} (h : Sees w B s A n c xs) (f : Fr lo hi w w') (h1 : B ≤ lo) (h2 : B ≤ w.heap.size) : Sees w' B s A n c xs := h.fr f h1 h2
/-- a disk and rows in the blocks from b on and below u, all of them apart -/
structure Sp (b u : Nat) (wr : World) (A : Option Addr) (n c : Nat) (A' : Option Addr) (k c' : Nat) (D : List Int) (R : List (List Int)) (l m lo hi : Nat) (L H : Nat → Nat) (vs : List Value) : Prop where
  disk : Own wr l m 3 1 A n c (ints D)
  rows : Own wr lo hi 22 1 A' k c' vs
  at_ : RowsAt wr L H vs R
  bd : b ≤ l ∧ l ≤ m ∧ m ≤ u
  bo : b ≤ lo ∧ lo ≤ hi ∧ hi ≤ u
  br : ∀ k, k < R.length → b ≤ L k ∧ L k ≤ H k ∧ H k ≤ u
  do_ : m ≤ lo ∨ hi ≤ l
  dr : ∀ k, k < R.length → m ≤ L k ∨ H k ≤ l
  or_ : ∀ k, k < R.length → hi ≤ L k ∨ H k ≤ lo
  rr : ∀ j k, j < k → k < R.length → H j ≤ L k
  up : u ≤ wr.heap.size
section
variable {w wr : World} {b u : Nat} {A : Option Addr} {n c : Nat} {A' : Option Addr} {k c' : Nat} {D : List Int} {R : List (List Int)} {l m lo hi : Nat} {L H : Nat → Nat} {vs : List Value}
theorem St.sp (s : St w wr A n c A' k c' D R l m lo hi L H vs) : Sp w.heap.size wr.heap.size wr A n c A' k c' D R l m lo hi L H vs :=
  ⟨s.disk, s.rows, s.at_, s.bd, s.bo, s.br, s.do_, s.dr, s.or_, s.rr, Nat.le_refl _⟩
theorem Sp.below (s : Sp b u wr A n c A' k c' D R l m lo hi L H vs) {w' : World} (h : Below wr.heap.size wr w') : Sp b u w' A n c A' k c' D R l m lo hi L H vs :=
  ⟨s.disk.below h, s.rows.below h, s.at_.below h, s.bd, s.bo, s.br, s.do_, s.dr, s.or_, s.rr, Nat.le_trans s.up h.size⟩
theorem Sp.fr (s : Sp b u wr A n c A' k c' D R l m lo hi L H vs) {w' : World} {l2 h2 : Nat} (f : Fr l2 h2 wr w') (h : h2 ≤ b ∨ u ≤ l2) : Sp b u w' A n c A' k c' D R l m lo hi L H vs := by
  have q1 := s.bd
  have q2 := s.bo
  exact ⟨s.disk.fr f (by omega), s.rows.fr f (by omega), s.at_.fr f (fun k hk => by have := s.br k hk; omega), s.bd, s.bo, s.br, s.do_, s.dr, s.or_, s.rr, Nat.le_trans s.up f.size⟩
theorem Sp.frR (s : Sp b u wr A n c A' k c' D R l m lo hi L H vs) {w' : World} {L2 H2 : Nat → Nat} {N : Nat} (f : FrR L2 H2 N wr w') (h : ∀ j, j < N → H2 j ≤ b ∨ u ≤ L2 j) : Sp b u w' A n c A' k c' D R l m lo hi L H vs := by
  have q1 := s.bd
  have q2 := s.bo
  refine ⟨s.disk.frR f (fun j hj => by have := h j hj; omega), s.rows.frR f (fun j hj => by have := h j hj; omega), ⟨s.at_.1, fun k x hx => ?_⟩, s.bd, s.bo, s.br, s.do_, s.dr, s.or_, s.rr, Nat.le_trans s.up f.size⟩
  obtain ⟨A, n, c, h1, h2⟩ := s.at_.2 k x hx
  have hk : k < R.length := (List.getElem?_eq_some_iff.1 hx).1
  exact ⟨A, n, c, h1, h2.frR f (fun j hj => by have := h j hj; have := s.br k hk; omega)⟩
theorem Sp.markD (s : Sp b u wr A n c A' k c' D R l m lo hi L H vs) {w' : World} {D' : List Int} (o : Own w' l m 3 1 A n c (ints D')) (f : Fr l m wr w') : Sp b u w' A n c A' k c' D' R l m lo hi L H vs := by
  have q1 := s.bd
  have q2 := s.bo
  have q3 := s.do_
  exact ⟨o, s.rows.fr f (by omega), s.at_.fr f (fun k hk => by have := s.dr k hk; omega), s.bd, s.bo, s.br, s.do_, s.dr, s.or_, s.rr, Nat.le_trans s.up f.size⟩
theorem Sp.markR (s : Sp b u wr A n c A' k c' D R l m lo hi L H vs) {w' : World} {R' : List (List Int)} (hl : R'.length = R.length) (o : RowsAt w' L H vs R') (f : FrR L H R.length wr w') : Sp b u w' A n c A' k c' D R' l m lo hi L H vs :=
  ⟨s.disk.frR f s.dr, s.rows.frR f s.or_, o, s.bd, s.bo, fun k hk => s.br k (hl ▸ hk), s.do_, fun k hk => s.dr k (hl ▸ hk), fun k hk => s.or_ k (hl ▸ hk), fun j k h hk => s.rr j k h (hl ▸ hk), Nat.le_trans s.up f.size⟩
theorem Sp.see (s : Sp b u wr A n c A' k c' D R l m lo hi L H vs) : RowsSee wr u vs R :=
  ⟨s.at_.1, fun j x hx => by
    obtain ⟨A, n, c, h1, h2⟩ := s.at_.2 j x hx
    exact ⟨A, n, c, h1, h2.sees.more (s.br j (List.getElem?_eq_some_iff.1 hx).1).2.2⟩⟩
theorem Sp.seeO (s : Sp b u wr A n c A' k c' D R l m lo hi L H vs) : Sees wr u 1 A' k c' vs := s.rows.sees.more s.bo.2.2
theorem Sp.seeD (s : Sp b u wr A n c A' k c' D R l m lo hi L H vs) : Sees wr u 1 A n c (ints D) := s.disk.sees.more s.bd.2.2
/-- the rows' blocks lie behind block b and before u -/
theorem Sp.frBelow (s : Sp b u wr A n c A' k c' D R l m lo hi L H vs) {w' a : World} {E : Nat} (hB : Below E a wr) (f : FrR L H R.length wr w') (h : E ≤ b) (hD : E ≤ a.heap.size) : Below E a w' :=
  FrR.below hB f (fun j hj => by have := s.br j hj; omega) hD
theorem Sp.apart (s : Sp b u wr A n c A' k c' D R l m lo hi L H vs) {b2 u2 : Nat} (h : u ≤ b2 ∨ u2 ≤ b) : ∀ j, j < R.length → H j ≤ b2 ∨ u2 ≤ L j := fun j hj => by have := s.br j hj; omega
theorem Sp.apartS (s : Sp b u wr A n c A' k c' D R l m lo hi L H vs) {B : Nat} (h : B ≤ b) : ∀ j, j < R.length → B ≤ L j := fun j hj => by have := s.br j hj; omega
end
theorem runR_64 : ∀ (l : List Cmd) (d : List Int), dval d = true → (∀ c ∈ l, cval c d.length = true) → ∀ r ∈ runR d l, r.length ≤ 64 := by
  intro l
  induction l with
  | nil => intro d _ _ r hr; simp [runR] at hr
  | cons c l ih =>
    intro d hd hl r hr
    have hc := hl c (by simp)
    have h1 := runD_len [c] d (fun x hx => by simp at hx; subst hx; exact hc)
    have h2 := runD_val [c] d hd (fun x hx => by simp at hx; subst hx; exact hc)
    simp only [runR, List.mem_cons] at hr
    rcases hr with rfl | hr
    · have := exR_64 d c; rwa [exR_of hd hc] at this
    · exact ih (xdisk d c) h2 (fun x hx => by rw [show (xdisk d c).length = d.length from h1]; exact hl x (by simp [hx])) r hr
theorem exBD_64 (d : List Int) (l : List Cmd) : (exBD d l).length ≤ 64 := by
  unfold exBD
  split
  · next h =>
    simp only [Bool.and_eq_true] at h
    rw [runD_len l d ((bval_iff _ _).1 h.2).2.2]
    exact ((dval_iff d).1 h.1).1
  · simp
theorem exBR_tot (d : List Int) (l : List Cmd) : tot (exBR d l) ≤ 768 ∧ (exBR d l).length ≤ 12 := by
  unfold exBR
  split
  · next h =>
    simp only [Bool.and_eq_true] at h
    have h1 := (bval_iff _ _).1 h.2
    have h2 := tot_bound 64 (runR d l) (runR_64 l d h.1 h1.2.2)
    rw [runR_length] at h2 ⊢
    exact ⟨Nat.le_trans h2 (by have := h1.1; omega), h1.1⟩
  · exact ⟨by simp [tot], by simp⟩
end Go.Proofs.Ythnebfcclkebeaa
