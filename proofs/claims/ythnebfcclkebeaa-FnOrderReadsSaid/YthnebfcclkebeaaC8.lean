/-
  Walks: the draw of commands (l20Command).
-/
import Derived.Test.YthnebfcclkebeaaC2
import Derived.Test.YthnebfcclkebeaaDR
namespace Go.Proofs.Ythnebfcclkebeaa
open Go.RowKit
set_option linter.unusedSimpArgs false
set_option linter.unusedVariables false
theorem frz4 {w : World} {g : Nat} {cs : Array Value} {t : TypeId} (e : w.heap[g]? = some (.cells cs t (0, 0))) :
    w.frozen? ⟨g, 0, none⟩ = false ∧ w.frozen? ⟨g, 1, none⟩ = false ∧ w.frozen? ⟨g, 2, none⟩ = false ∧ w.frozen? ⟨g, 3, none⟩ = false := ⟨frzRow e 0, frzRow e 1, frzRow e 2, frzRow e 3⟩
theorem set40 {w : World} {g : Nat} {a b c d : Value} {t : TypeId} (e : w.heap[g]? = some (.cells #[a, b, c, d] t (0, 0))) (u : Value) : (w.setCell ⟨g, 0, none⟩ u).heap[g]? = some (.cells #[u, b, c, d] t (0, 0)) := by
  rw [heap_setCell_same w g 0 _ t u e]; rfl
theorem set41 {w : World} {g : Nat} {a b c d : Value} {t : TypeId} (e : w.heap[g]? = some (.cells #[a, b, c, d] t (0, 0))) (u : Value) : (w.setCell ⟨g, 1, none⟩ u).heap[g]? = some (.cells #[a, u, c, d] t (0, 0)) := by
  rw [heap_setCell_same w g 1 _ t u e]; rfl
theorem set42 {w : World} {g : Nat} {a b c d : Value} {t : TypeId} (e : w.heap[g]? = some (.cells #[a, b, c, d] t (0, 0))) (u : Value) : (w.setCell ⟨g, 2, none⟩ u).heap[g]? = some (.cells #[a, b, u, d] t (0, 0)) := by
  rw [heap_setCell_same w g 2 _ t u e]; rfl
theorem set43 {w : World} {g : Nat} {a b c d : Value} {t : TypeId} (e : w.heap[g]? = some (.cells #[a, b, c, d] t (0, 0))) (u : Value) : (w.setCell ⟨g, 3, none⟩ u).heap[g]? = some (.cells #[a, b, c, u] t (0, 0)) := by
  rw [heap_setCell_same w g 3 _ t u e]; rfl
/-- a number of a command that is drawn -/
def cb (x : Int) : Prop := -1 ≤ x ∧ x ≤ 9223372036854775807
/-- What l20Command leaves: some command; the reader some places further; nothing else has changed. -/
def RetCmd (w : World) (R p : Nat) (en : Ending) (w' : World) : Prop :=
  ∃ k a c v : Int, ∃ q : Nat, en = .returned (.agg #[.int .i64 k, .int .i64 a, .int .i64 c, .int .i64 v]) ∧ (cb k ∧ cb a ∧ cb c ∧ cb v) ∧ (p ≤ q ∧ q ≤ p + 20) ∧ Rd w' R q ∧ Fr R (R + 1) w w'
/-- the command's box while it is drawn -/
structure AtCmd (w wr : World) (R p g : Nat) (k a c v : Int) (q : Nat) : Prop where
  r0 : wr.heap[w.heap.size]? = some (.cells #[.int .i64 0, .int .i64 0, .int .i64 0, .int .i64 0] 55 (0, 0))
  r1 : wr.heap[g]? = some (.cells #[.int .i64 k, .int .i64 a, .int .i64 c, .int .i64 v] 55 (0, 0))
  g_ : w.heap.size < g
  q_ : p ≤ q ∧ q ≤ p + 20
  rd : Rd wr R q
  fr : Fr R (R + 1) w wr
  R_ : R < w.heap.size
  bd : cb k ∧ cb a ∧ cb c ∧ cb v
theorem AtCmd.pick {w wr w' : World} {R p g : Nat} {k a c v : Int} {q q' : Nat} (s : AtCmd w wr R p g k a c v q) (hr : Rd w' R q') (hf : Fr R (R + 1) wr w') (hq : p ≤ q' ∧ q' ≤ p + 20) : AtCmd w w' R p g k a c v q' :=
  ⟨rowFr s.r0 hf (.inr (by have := s.R_; omega)), rowFr s.r1 hf (.inr (by have := s.R_; have := s.g_; omega)), s.g_, hq, hr, s.fr.trans hf, s.R_, s.bd⟩
theorem AtCmd.lay {w wr : World} {R p g : Nat} {k a c v : Int} {q : Nat} (s : AtCmd w wr R p g k a c v q) (o : Obj) : AtCmd w (wr.alloc o) R p g k a c v q :=
  ⟨rowKeep s.r0 (below_new _ _), rowKeep s.r1 (below_new _ _), s.g_, s.q_, s.rd.alloc o, s.fr.alloc o, s.R_, s.bd⟩
theorem AtCmd.set0 {w wr : World} {R p g : Nat} {k a c v : Int} {q : Nat} (s : AtCmd w wr R p g k a c v q) (x : Int) (hx : cb x) : AtCmd w (wr.setCell ⟨g, 0, none⟩ (.int .i64 x)) R p g x a c v q :=
  ⟨rowSet s.r0 ⟨g, 0, none⟩ _ (by have := s.g_; show w.heap.size ≠ g; omega), set40 s.r1 _, s.g_, s.q_, rd_setc s.rd _ _ (by have := s.g_; have := s.R_; show R < g; omega), fr_setd s.fr (by have := s.g_; show w.heap.size ≤ g; omega) _, s.R_, ⟨hx, s.bd.2.1, s.bd.2.2.1, s.bd.2.2.2⟩⟩
theorem AtCmd.set1 {w wr : World} {R p g : Nat} {k a c v : Int} {q : Nat} (s : AtCmd w wr R p g k a c v q) (x : Int) (hx : cb x) : AtCmd w (wr.setCell ⟨g, 1, none⟩ (.int .i64 x)) R p g k x c v q :=
  ⟨rowSet s.r0 ⟨g, 1, none⟩ _ (by have := s.g_; show w.heap.size ≠ g; omega), set41 s.r1 _, s.g_, s.q_, rd_setc s.rd _ _ (by have := s.g_; have := s.R_; show R < g; omega), fr_setd s.fr (by have := s.g_; show w.heap.size ≤ g; omega) _, s.R_, ⟨s.bd.1, hx, s.bd.2.2.1, s.bd.2.2.2⟩⟩
theorem AtCmd.set2 {w wr : World} {R p g : Nat} {k a c v : Int} {q : Nat} (s : AtCmd w wr R p g k a c v q) (x : Int) (hx : cb x) : AtCmd w (wr.setCell ⟨g, 2, none⟩ (.int .i64 x)) R p g k a x v q :=
  ⟨rowSet s.r0 ⟨g, 2, none⟩ _ (by have := s.g_; show w.heap.size ≠ g; omega), set42 s.r1 _, s.g_, s.q_, rd_setc s.rd _ _ (by have := s.g_; have := s.R_; show R < g; omega), fr_setd s.fr (by have := s.g_; show w.heap.size ≤ g; omega) _, s.R_, ⟨s.bd.1, s.bd.2.1, hx, s.bd.2.2.2⟩⟩
theorem AtCmd.set3 {w wr : World} {R p g : Nat} {k a c v : Int} {q : Nat} (s : AtCmd w wr R p g k a c v q) (x : Int) (hx : cb x) : AtCmd w (wr.setCell ⟨g, 3, none⟩ (.int .i64 x)) R p g k a c x q :=
  ⟨rowSet s.r0 ⟨g, 3, none⟩ _ (by have := s.g_; show w.heap.size ≠ g; omega), set43 s.r1 _, s.g_, s.q_, rd_setc s.rd _ _ (by have := s.g_; have := s.R_; show R < g; omega), fr_setd s.fr (by have := s.g_; show w.heap.size ≤ g; omega) _, s.R_, ⟨s.bd.1, s.bd.2.1, s.bd.2.2.1, hx⟩⟩
theorem AtCmd.out {w wr : World} {R p g : Nat} {k a c v : Int} {q : Nat} (s : AtCmd w wr R p g k a c v q) :
    RetCmd w R p (.returned (.agg #[.int .i64 k, .int .i64 a, .int .i64 c, .int .i64 v])) ((((wr.setCell ⟨w.heap.size, 0, none⟩ (.int .i64 k)).setCell ⟨w.heap.size, 1, none⟩ (.int .i64 a)).setCell ⟨w.heap.size, 2, none⟩ (.int .i64 c)).setCell ⟨w.heap.size, 3, none⟩ (.int .i64 v)) := by
  have hR := s.R_
  exact ⟨k, a, c, v, q, rfl, s.bd, s.q_, rd_setc (rd_setc (rd_setc (rd_setc s.rd _ _ hR) _ _ hR) _ _ hR) _ _ hR, fr_setd (fr_setd (fr_setd (fr_setd s.fr (Nat.le_refl _) _) (Nat.le_refl _) _) (Nat.le_refl _) _) (Nat.le_refl _) _⟩
set_option maxHeartbeats 20000000 in
theorem command_any (R p : Nat) (size m : Int) (w : World) (h : Rd w R p) (hp : p ≤ 1000000000000) (hs1 : 0 ≤ size) (hs2 : size ≤ 1000000) (hm1 : -9223372036854775808 < m) (hm2 : m ≤ 9223372036854775807) :
    Calls Try.prog 73 #[.pointer (some ⟨R, 0, none⟩), .int .i64 size, .int .i64 m] w (RetCmd w R p) := by
  have hRw := h.lt
  have h1 := (h.alloc (.cells #[.int .i64 0, .int .i64 0, .int .i64 0, .int .i64 0] 55)).alloc (.cells #[.int .i64 1, .int .i64 2, .int .i64 2, .int .i64 3, .int .i64 4] 3)
  have r0 : ((w.alloc (.cells #[.int .i64 0, .int .i64 0, .int .i64 0, .int .i64 0] 55)).alloc (.cells #[.int .i64 1, .int .i64 2, .int .i64 2, .int .i64 3, .int .i64 4] 3)).heap[w.heap.size]? = some (.cells #[.int .i64 0, .int .i64 0, .int .i64 0, .int .i64 0] 55 (0, 0)) := rowKeep (heap_alloc_new w _) (below_new _ _)
  have rl : ((w.alloc (.cells #[.int .i64 0, .int .i64 0, .int .i64 0, .int .i64 0] 55)).alloc (.cells #[.int .i64 1, .int .i64 2, .int .i64 2, .int .i64 3, .int .i64 4] 3)).heap[w.heap.size + 1]? = some (.cells #[.int .i64 1, .int .i64 2, .int .i64 2, .int .i64 3, .int .i64 4] 3 (0, 0)) := by have := heap_alloc_new (w.alloc (.cells #[.int .i64 0, .int .i64 0, .int .i64 0, .int .i64 0] 55)) (.cells #[.int .i64 1, .int .i64 2, .int .i64 2, .int .i64 3, .int .i64 4] 3); rwa [World.size_alloc] at this
  have f1 : Fr R (R + 1) w ((w.alloc (.cells #[.int .i64 0, .int .i64 0, .int .i64 0, .int .i64 0] 55)).alloc (.cells #[.int .i64 1, .int .i64 2, .int .i64 2, .int .i64 3, .int .i64 4] 3)) := ((Fr.refl _ _ _).alloc _).alloc _
  have zz : w.heap.size + 1 + 1 = ((w.alloc (.cells #[.int .i64 0, .int .i64 0, .int .i64 0, .int .i64 0] 55)).alloc (.cells #[.int .i64 1, .int .i64 2, .int .i64 2, .int .i64 3, .int .i64 4] 3)).heap.size := by simp
  go_enter Try.func73, Try.ntmps73
  go_wp2_with fail
  generalize ((w.alloc (.cells #[.int .i64 0, .int .i64 0, .int .i64 0, .int .i64 0] 55)).alloc (.cells #[.int .i64 1, .int .i64 2, .int .i64 2, .int .i64 3, .int .i64 4] 3)) = W at *
  refine (pick_any _ _ _ _ h1 (by omega)).mono ?_
  rintro e w3 ⟨k1, rfl, hk1, hr3, hf3, hs3⟩
  have z3 : w.heap.size + 1 + 1 ≤ w3.heap.size := by omega
  replace r0 := rowFr r0 hf3 (.inr (by omega))
  replace rl := rowFr rl hf3 (.inr (by omega))
  replace f1 := f1.trans hf3
  obtain ⟨i1, i2⟩ : 0 ≤ k1 ∧ k1 < 5 := by omega
  obtain ⟨kd, hkd, hpk⟩ := pickL (fun x => 1 ≤ x ∧ x ≤ 4) [1, 2, 2, 3, 4] k1 (by decide) i1 i2
  have hcv : w3.cell? ⟨w.heap.size + 1, k1.toNat, none⟩ = some (.int .i64 kd) := by rw [cell_of_row w3 _ _ _ _ _ rl]; exact hpk
  have mk : ∀ x : Int, cb x → AtCmd w (w3.alloc (.cells #[.int .i64 x, .int .i64 0, .int .i64 0, .int .i64 0] 55)) R p w3.heap.size x 0 0 0 (p + 1) := fun x hx =>
    ⟨rowKeep r0 (below_new _ _), heap_alloc_new w3 _, by omega, by omega, hr3.alloc _, f1.alloc _, hRw, by unfold cb at *; omega⟩
  have st := mk kd (by unfold cb; omega)
  have st4 := mk 4 (by unfold cb; omega)
  clear mk hf3 hs3 hk1 hr3 r0 rl f1 zz h1 h hpk
  obtain ⟨m0, m1, m2, m3⟩ := cells4 st.r1
  obtain ⟨z0, z1, z2, z4⟩ := frz4 st.r1
  by_cases hz : size < 1
  · have s9 := st4
    clear st st4
    go_wp2_with fail
    generalize (w3.alloc (.cells #[.int .i64 4, .int .i64 0, .int .i64 0, .int .i64 0] 55)) = W9 at *
    have hq9 := s9.q_
    refine (odd_any R _ m _ s9.rd (by omega) hm1 hm2).mono ?_
    rintro e w4 ⟨b, q4, rfl, hq4, hr4, hf4, hs4⟩
    have s4 := s9.pick hr4 hf4 (by omega)
    clear s9 hr4 hf4 hs4
    obtain ⟨m0, m1, m2, m3⟩ := cells4 s4.r1
    obtain ⟨y0, y1, y2, y3⟩ := frz4 s4.r0
    obtain ⟨l0, l1, l2, l3⟩ := cells4 s4.r0
    cases b
    · have HO := Lib.hid s4.out
      obtain ⟨n0, n1, n2, n3⟩ := cells4 (set43 (set42 (set41 (set40 s4.r0 (.int .i64 (4))) (.int .i64 (0))) (.int .i64 (0))) (.int .i64 (0)))
      clear s4
      go_wp2_with fail
      refine bodyPost_ret (v := .agg #[.int .i64 4, .int .i64 0, .int .i64 0, .int .i64 0]) (by simp [results, Try.results73, go_sem, n0, n1, n2, n3]) rfl ?_
      exact HO.out
    · clear y0 y1 y2 y3 m0 m1 m2 m3 l0 l1 l2 l3
      go_wp2_with fail
      refine (pick_any R _ 4 _ s4.rd (by omega)).mono ?_
      rintro e w5 ⟨k5, rfl, hk5, hr5, hf5, hs5⟩
      have s5 := s4.pick hr5 hf5 (by omega)
      clear s4 hr5 hf5 hs5
      have HG5 := Lib.hid s5.fr.size
      obtain hk | hk | hk | hk : k5 = 0 ∨ k5 = 1 ∨ k5 = 2 ∨ k5 = 3 := by omega
      · subst hk
        clear hk5
        have s6 := s5.lay (.cells #[.int .i64 0, .int .i64 5] 3)
        have rl := heap_alloc_new w5 (.cells #[.int .i64 0, .int .i64 5] 3)
        skip
        clear s5
        go_wp2_with fail
        generalize (w5.alloc (.cells #[.int .i64 0, .int .i64 5] 3)) = W6 at *
        have hG5 : w.heap.size ≤ w5.heap.size := HG5.out
        have hRg := s6.R_
        have hgl := rowLt rl
        refine (pick_any R _ 2 _ s6.rd (by have := s6.q_; omega)).mono ?_
        rintro e w7 ⟨k7, rfl, hk7, hr7, hf7, hs7⟩
        have s7 := s6.pick hr7 hf7 (by omega)
        have hw5 : R + 1 ≤ w5.heap.size := by have := hG5; omega
        have rl7 := rowFr rl hf7 (.inr hw5)
        obtain ⟨i1, i2⟩ : 0 ≤ k7 ∧ k7 < 2 := by omega
        obtain ⟨x, hx, hpk⟩ := pickL cb [0, 5] k7 (by intro y hy; simp only [List.mem_cons, List.not_mem_nil, or_false] at hy; unfold cb; omega) i1 i2
        have hcv : w7.cell? ⟨w5.heap.size, k7.toNat, none⟩ = some (.int .i64 x) := by rw [cell_of_row w7 _ _ _ _ _ rl7]; exact hpk
        obtain ⟨m0, m1, m2, m3⟩ := cells4 s7.r1
        obtain ⟨z0, z1, z2, z4⟩ := frz4 s7.r1
        obtain ⟨y0, y1, y2, y3⟩ := frz4 s7.r0
        obtain ⟨l0, l1, l2, l3⟩ := cells4 s7.r0
        have s8 := s7.set0 x hx
        have HO := Lib.hid s8.out
        obtain ⟨n0, n1, n2, n3⟩ := cells4 (set43 (set42 (set41 (set40 s8.r0 (.int .i64 (x))) (.int .i64 (0))) (.int .i64 (0))) (.int .i64 (0)))
        clear s6 s7 s8 rl rl7 hr7 hf7 hs7 hk7 hpk
        go_wp2_with fail
        refine bodyPost_ret (v := .agg #[.int .i64 x, .int .i64 0, .int .i64 0, .int .i64 0]) (by simp [results, Try.results73, go_sem, n0, n1, n2, n3]) rfl ?_
        exact HO.out
      · subst hk
        clear hk5
        have s6 := s5.lay (.cells #[.int .i64 (-1), .int .i64 size] 3)
        have rl := heap_alloc_new w5 (.cells #[.int .i64 (-1), .int .i64 size] 3)
        skip
        clear s5
        go_wp2_with fail
        generalize (w5.alloc (.cells #[.int .i64 (-1), .int .i64 size] 3)) = W6 at *
        have hG5 : w.heap.size ≤ w5.heap.size := HG5.out
        have hRg := s6.R_
        have hgl := rowLt rl
        refine (pick_any R _ 2 _ s6.rd (by have := s6.q_; omega)).mono ?_
        rintro e w7 ⟨k7, rfl, hk7, hr7, hf7, hs7⟩
        have s7 := s6.pick hr7 hf7 (by omega)
        have hw5 : R + 1 ≤ w5.heap.size := by have := hG5; omega
        have rl7 := rowFr rl hf7 (.inr hw5)
        obtain ⟨i1, i2⟩ : 0 ≤ k7 ∧ k7 < 2 := by omega
        obtain ⟨x, hx, hpk⟩ := pickL cb [(-1), size] k7 (by intro y hy; simp only [List.mem_cons, List.not_mem_nil, or_false] at hy; unfold cb; omega) i1 i2
        have hcv : w7.cell? ⟨w5.heap.size, k7.toNat, none⟩ = some (.int .i64 x) := by rw [cell_of_row w7 _ _ _ _ _ rl7]; exact hpk
        obtain ⟨m0, m1, m2, m3⟩ := cells4 s7.r1
        obtain ⟨z0, z1, z2, z4⟩ := frz4 s7.r1
        obtain ⟨y0, y1, y2, y3⟩ := frz4 s7.r0
        obtain ⟨l0, l1, l2, l3⟩ := cells4 s7.r0
        have s8 := s7.set1 x hx
        have HO := Lib.hid s8.out
        obtain ⟨n0, n1, n2, n3⟩ := cells4 (set43 (set42 (set41 (set40 s8.r0 (.int .i64 (4))) (.int .i64 (x))) (.int .i64 (0))) (.int .i64 (0)))
        clear s6 s7 s8 rl rl7 hr7 hf7 hs7 hk7 hpk
        go_wp2_with fail
        refine bodyPost_ret (v := .agg #[.int .i64 4, .int .i64 x, .int .i64 0, .int .i64 0]) (by simp [results, Try.results73, go_sem, n0, n1, n2, n3]) rfl ?_
        exact HO.out
      · subst hk
        clear hk5
        have s6 := s5.lay (.cells #[.int .i64 0, .int .i64 (size + 1), .int .i64 9223372036854775807] 3)
        have rl := heap_alloc_new w5 (.cells #[.int .i64 0, .int .i64 (size + 1), .int .i64 9223372036854775807] 3)
        have e9 : IntKind.i64.wrap (size + 1) = size + 1 := IntWalk.i64_in _ (by omega)
        clear s5
        go_wp2_with fail
        generalize (w5.alloc (.cells #[.int .i64 0, .int .i64 (size + 1), .int .i64 9223372036854775807] 3)) = W6 at *
        have hG5 : w.heap.size ≤ w5.heap.size := HG5.out
        have hRg := s6.R_
        have hgl := rowLt rl
        refine (pick_any R _ 3 _ s6.rd (by have := s6.q_; omega)).mono ?_
        rintro e w7 ⟨k7, rfl, hk7, hr7, hf7, hs7⟩
        have s7 := s6.pick hr7 hf7 (by omega)
        have hw5 : R + 1 ≤ w5.heap.size := by have := hG5; omega
        have rl7 := rowFr rl hf7 (.inr hw5)
        obtain ⟨i1, i2⟩ : 0 ≤ k7 ∧ k7 < 3 := by omega
        obtain ⟨x, hx, hpk⟩ := pickL cb [0, (size + 1), 9223372036854775807] k7 (by intro y hy; simp only [List.mem_cons, List.not_mem_nil, or_false] at hy; unfold cb; omega) i1 i2
        have hcv : w7.cell? ⟨w5.heap.size, k7.toNat, none⟩ = some (.int .i64 x) := by rw [cell_of_row w7 _ _ _ _ _ rl7]; exact hpk
        obtain ⟨m0, m1, m2, m3⟩ := cells4 s7.r1
        obtain ⟨z0, z1, z2, z4⟩ := frz4 s7.r1
        obtain ⟨y0, y1, y2, y3⟩ := frz4 s7.r0
        obtain ⟨l0, l1, l2, l3⟩ := cells4 s7.r0
        have s8 := s7.set2 x hx
        have HO := Lib.hid s8.out
        obtain ⟨n0, n1, n2, n3⟩ := cells4 (set43 (set42 (set41 (set40 s8.r0 (.int .i64 (4))) (.int .i64 (0))) (.int .i64 (x))) (.int .i64 (0)))
        clear s6 s7 s8 rl rl7 hr7 hf7 hs7 hk7 hpk
        go_wp2_with fail
        refine bodyPost_ret (v := .agg #[.int .i64 4, .int .i64 0, .int .i64 x, .int .i64 0]) (by simp [results, Try.results73, go_sem, n0, n1, n2, n3]) rfl ?_
        exact HO.out
      · subst hk
        clear hk5
        have s6 := s5.lay (.cells #[.int .i64 (-1), .int .i64 256, .int .i64 1] 3)
        have rl := heap_alloc_new w5 (.cells #[.int .i64 (-1), .int .i64 256, .int .i64 1] 3)
        skip
        clear s5
        go_wp2_with fail
        generalize (w5.alloc (.cells #[.int .i64 (-1), .int .i64 256, .int .i64 1] 3)) = W6 at *
        have hG5 : w.heap.size ≤ w5.heap.size := HG5.out
        have hRg := s6.R_
        have hgl := rowLt rl
        refine (pick_any R _ 3 _ s6.rd (by have := s6.q_; omega)).mono ?_
        rintro e w7 ⟨k7, rfl, hk7, hr7, hf7, hs7⟩
        have s7 := s6.pick hr7 hf7 (by omega)
        have hw5 : R + 1 ≤ w5.heap.size := by have := hG5; omega
        have rl7 := rowFr rl hf7 (.inr hw5)
        obtain ⟨i1, i2⟩ : 0 ≤ k7 ∧ k7 < 3 := by omega
        obtain ⟨x, hx, hpk⟩ := pickL cb [(-1), 256, 1] k7 (by intro y hy; simp only [List.mem_cons, List.not_mem_nil, or_false] at hy; unfold cb; omega) i1 i2
        have hcv : w7.cell? ⟨w5.heap.size, k7.toNat, none⟩ = some (.int .i64 x) := by rw [cell_of_row w7 _ _ _ _ _ rl7]; exact hpk
        obtain ⟨m0, m1, m2, m3⟩ := cells4 s7.r1
        obtain ⟨z0, z1, z2, z4⟩ := frz4 s7.r1
        obtain ⟨y0, y1, y2, y3⟩ := frz4 s7.r0
        obtain ⟨l0, l1, l2, l3⟩ := cells4 s7.r0
        have s8 := s7.set3 x hx
        have HO := Lib.hid s8.out
        obtain ⟨n0, n1, n2, n3⟩ := cells4 (set43 (set42 (set41 (set40 s8.r0 (.int .i64 (4))) (.int .i64 (0))) (.int .i64 (0))) (.int .i64 (x)))
        clear s6 s7 s8 rl rl7 hr7 hf7 hs7 hk7 hpk
        go_wp2_with fail
        refine bodyPost_ret (v := .agg #[.int .i64 4, .int .i64 0, .int .i64 0, .int .i64 x]) (by simp [results, Try.results73, go_sem, n0, n1, n2, n3]) rfl ?_
        exact HO.out
  · by_cases hk4 : kd = 4
    · subst hk4
      have s9 := st
      clear st st4
      go_wp2_with fail
      generalize (w3.alloc (.cells #[.int .i64 4, .int .i64 0, .int .i64 0, .int .i64 0] 55)) = W9 at *
      have hq9 := s9.q_
      refine (odd_any R _ m _ s9.rd (by omega) hm1 hm2).mono ?_
      rintro e w4 ⟨b, q4, rfl, hq4, hr4, hf4, hs4⟩
      have s4 := s9.pick hr4 hf4 (by omega)
      clear s9 hr4 hf4 hs4
      obtain ⟨m0, m1, m2, m3⟩ := cells4 s4.r1
      obtain ⟨y0, y1, y2, y3⟩ := frz4 s4.r0
      obtain ⟨l0, l1, l2, l3⟩ := cells4 s4.r0
      cases b
      · have HO := Lib.hid s4.out
        obtain ⟨n0, n1, n2, n3⟩ := cells4 (set43 (set42 (set41 (set40 s4.r0 (.int .i64 (4))) (.int .i64 (0))) (.int .i64 (0))) (.int .i64 (0)))
        clear s4
        go_wp2_with fail
        refine bodyPost_ret (v := .agg #[.int .i64 4, .int .i64 0, .int .i64 0, .int .i64 0]) (by simp [results, Try.results73, go_sem, n0, n1, n2, n3]) rfl ?_
        exact HO.out
      · clear y0 y1 y2 y3 m0 m1 m2 m3 l0 l1 l2 l3
        go_wp2_with fail
        refine (pick_any R _ 4 _ s4.rd (by omega)).mono ?_
        rintro e w5 ⟨k5, rfl, hk5, hr5, hf5, hs5⟩
        have s5 := s4.pick hr5 hf5 (by omega)
        clear s4 hr5 hf5 hs5
        have HG5 := Lib.hid s5.fr.size
        obtain hk | hk | hk | hk : k5 = 0 ∨ k5 = 1 ∨ k5 = 2 ∨ k5 = 3 := by omega
        · subst hk
          clear hk5
          have s6 := s5.lay (.cells #[.int .i64 0, .int .i64 5] 3)
          have rl := heap_alloc_new w5 (.cells #[.int .i64 0, .int .i64 5] 3)
          skip
          clear s5
          go_wp2_with fail
          generalize (w5.alloc (.cells #[.int .i64 0, .int .i64 5] 3)) = W6 at *
          have hG5 : w.heap.size ≤ w5.heap.size := HG5.out
          have hRg := s6.R_
          have hgl := rowLt rl
          refine (pick_any R _ 2 _ s6.rd (by have := s6.q_; omega)).mono ?_
          rintro e w7 ⟨k7, rfl, hk7, hr7, hf7, hs7⟩
          have s7 := s6.pick hr7 hf7 (by omega)
          have hw5 : R + 1 ≤ w5.heap.size := by have := hG5; omega
          have rl7 := rowFr rl hf7 (.inr hw5)
          obtain ⟨i1, i2⟩ : 0 ≤ k7 ∧ k7 < 2 := by omega
          obtain ⟨x, hx, hpk⟩ := pickL cb [0, 5] k7 (by intro y hy; simp only [List.mem_cons, List.not_mem_nil, or_false] at hy; unfold cb; omega) i1 i2
          have hcv : w7.cell? ⟨w5.heap.size, k7.toNat, none⟩ = some (.int .i64 x) := by rw [cell_of_row w7 _ _ _ _ _ rl7]; exact hpk
          obtain ⟨m0, m1, m2, m3⟩ := cells4 s7.r1
          obtain ⟨z0, z1, z2, z4⟩ := frz4 s7.r1
          obtain ⟨y0, y1, y2, y3⟩ := frz4 s7.r0
          obtain ⟨l0, l1, l2, l3⟩ := cells4 s7.r0
          have s8 := s7.set0 x hx
          have HO := Lib.hid s8.out
          obtain ⟨n0, n1, n2, n3⟩ := cells4 (set43 (set42 (set41 (set40 s8.r0 (.int .i64 (x))) (.int .i64 (0))) (.int .i64 (0))) (.int .i64 (0)))
          clear s6 s7 s8 rl rl7 hr7 hf7 hs7 hk7 hpk
          go_wp2_with fail
          refine bodyPost_ret (v := .agg #[.int .i64 x, .int .i64 0, .int .i64 0, .int .i64 0]) (by simp [results, Try.results73, go_sem, n0, n1, n2, n3]) rfl ?_
          exact HO.out
        · subst hk
          clear hk5
          have s6 := s5.lay (.cells #[.int .i64 (-1), .int .i64 size] 3)
          have rl := heap_alloc_new w5 (.cells #[.int .i64 (-1), .int .i64 size] 3)
          skip
          clear s5
          go_wp2_with fail
          generalize (w5.alloc (.cells #[.int .i64 (-1), .int .i64 size] 3)) = W6 at *
          have hG5 : w.heap.size ≤ w5.heap.size := HG5.out
          have hRg := s6.R_
          have hgl := rowLt rl
          refine (pick_any R _ 2 _ s6.rd (by have := s6.q_; omega)).mono ?_
          rintro e w7 ⟨k7, rfl, hk7, hr7, hf7, hs7⟩
          have s7 := s6.pick hr7 hf7 (by omega)
          have hw5 : R + 1 ≤ w5.heap.size := by have := hG5; omega
          have rl7 := rowFr rl hf7 (.inr hw5)
          obtain ⟨i1, i2⟩ : 0 ≤ k7 ∧ k7 < 2 := by omega
          obtain ⟨x, hx, hpk⟩ := pickL cb [(-1), size] k7 (by intro y hy; simp only [List.mem_cons, List.not_mem_nil, or_false] at hy; unfold cb; omega) i1 i2
          have hcv : w7.cell? ⟨w5.heap.size, k7.toNat, none⟩ = some (.int .i64 x) := by rw [cell_of_row w7 _ _ _ _ _ rl7]; exact hpk
          obtain ⟨m0, m1, m2, m3⟩ := cells4 s7.r1
          obtain ⟨z0, z1, z2, z4⟩ := frz4 s7.r1
          obtain ⟨y0, y1, y2, y3⟩ := frz4 s7.r0
          obtain ⟨l0, l1, l2, l3⟩ := cells4 s7.r0
          have s8 := s7.set1 x hx
          have HO := Lib.hid s8.out
          obtain ⟨n0, n1, n2, n3⟩ := cells4 (set43 (set42 (set41 (set40 s8.r0 (.int .i64 (4))) (.int .i64 (x))) (.int .i64 (0))) (.int .i64 (0)))
          clear s6 s7 s8 rl rl7 hr7 hf7 hs7 hk7 hpk
          go_wp2_with fail
          refine bodyPost_ret (v := .agg #[.int .i64 4, .int .i64 x, .int .i64 0, .int .i64 0]) (by simp [results, Try.results73, go_sem, n0, n1, n2, n3]) rfl ?_
          exact HO.out
        · subst hk
          clear hk5
          have s6 := s5.lay (.cells #[.int .i64 0, .int .i64 (size + 1), .int .i64 9223372036854775807] 3)
          have rl := heap_alloc_new w5 (.cells #[.int .i64 0, .int .i64 (size + 1), .int .i64 9223372036854775807] 3)
          have e9 : IntKind.i64.wrap (size + 1) = size + 1 := IntWalk.i64_in _ (by omega)
          clear s5
          go_wp2_with fail
          generalize (w5.alloc (.cells #[.int .i64 0, .int .i64 (size + 1), .int .i64 9223372036854775807] 3)) = W6 at *
          have hG5 : w.heap.size ≤ w5.heap.size := HG5.out
          have hRg := s6.R_
          have hgl := rowLt rl
          refine (pick_any R _ 3 _ s6.rd (by have := s6.q_; omega)).mono ?_
          rintro e w7 ⟨k7, rfl, hk7, hr7, hf7, hs7⟩
          have s7 := s6.pick hr7 hf7 (by omega)
          have hw5 : R + 1 ≤ w5.heap.size := by have := hG5; omega
          have rl7 := rowFr rl hf7 (.inr hw5)
          obtain ⟨i1, i2⟩ : 0 ≤ k7 ∧ k7 < 3 := by omega
          obtain ⟨x, hx, hpk⟩ := pickL cb [0, (size + 1), 9223372036854775807] k7 (by intro y hy; simp only [List.mem_cons, List.not_mem_nil, or_false] at hy; unfold cb; omega) i1 i2
          have hcv : w7.cell? ⟨w5.heap.size, k7.toNat, none⟩ = some (.int .i64 x) := by rw [cell_of_row w7 _ _ _ _ _ rl7]; exact hpk
          obtain ⟨m0, m1, m2, m3⟩ := cells4 s7.r1
          obtain ⟨z0, z1, z2, z4⟩ := frz4 s7.r1
          obtain ⟨y0, y1, y2, y3⟩ := frz4 s7.r0
          obtain ⟨l0, l1, l2, l3⟩ := cells4 s7.r0
          have s8 := s7.set2 x hx
          have HO := Lib.hid s8.out
          obtain ⟨n0, n1, n2, n3⟩ := cells4 (set43 (set42 (set41 (set40 s8.r0 (.int .i64 (4))) (.int .i64 (0))) (.int .i64 (x))) (.int .i64 (0)))
          clear s6 s7 s8 rl rl7 hr7 hf7 hs7 hk7 hpk
          go_wp2_with fail
          refine bodyPost_ret (v := .agg #[.int .i64 4, .int .i64 0, .int .i64 x, .int .i64 0]) (by simp [results, Try.results73, go_sem, n0, n1, n2, n3]) rfl ?_
          exact HO.out
        · subst hk
          clear hk5
          have s6 := s5.lay (.cells #[.int .i64 (-1), .int .i64 256, .int .i64 1] 3)
          have rl := heap_alloc_new w5 (.cells #[.int .i64 (-1), .int .i64 256, .int .i64 1] 3)
          skip
          clear s5
          go_wp2_with fail
          generalize (w5.alloc (.cells #[.int .i64 (-1), .int .i64 256, .int .i64 1] 3)) = W6 at *
          have hG5 : w.heap.size ≤ w5.heap.size := HG5.out
          have hRg := s6.R_
          have hgl := rowLt rl
          refine (pick_any R _ 3 _ s6.rd (by have := s6.q_; omega)).mono ?_
          rintro e w7 ⟨k7, rfl, hk7, hr7, hf7, hs7⟩
          have s7 := s6.pick hr7 hf7 (by omega)
          have hw5 : R + 1 ≤ w5.heap.size := by have := hG5; omega
          have rl7 := rowFr rl hf7 (.inr hw5)
          obtain ⟨i1, i2⟩ : 0 ≤ k7 ∧ k7 < 3 := by omega
          obtain ⟨x, hx, hpk⟩ := pickL cb [(-1), 256, 1] k7 (by intro y hy; simp only [List.mem_cons, List.not_mem_nil, or_false] at hy; unfold cb; omega) i1 i2
          have hcv : w7.cell? ⟨w5.heap.size, k7.toNat, none⟩ = some (.int .i64 x) := by rw [cell_of_row w7 _ _ _ _ _ rl7]; exact hpk
          obtain ⟨m0, m1, m2, m3⟩ := cells4 s7.r1
          obtain ⟨z0, z1, z2, z4⟩ := frz4 s7.r1
          obtain ⟨y0, y1, y2, y3⟩ := frz4 s7.r0
          obtain ⟨l0, l1, l2, l3⟩ := cells4 s7.r0
          have s8 := s7.set3 x hx
          have HO := Lib.hid s8.out
          obtain ⟨n0, n1, n2, n3⟩ := cells4 (set43 (set42 (set41 (set40 s8.r0 (.int .i64 (4))) (.int .i64 (0))) (.int .i64 (0))) (.int .i64 (x)))
          clear s6 s7 s8 rl rl7 hr7 hf7 hs7 hk7 hpk
          go_wp2_with fail
          refine bodyPost_ret (v := .agg #[.int .i64 4, .int .i64 0, .int .i64 0, .int .i64 x]) (by simp [results, Try.results73, go_sem, n0, n1, n2, n3]) rfl ?_
          exact HO.out
    · go_wp2_with fail
      generalize (w3.alloc (.cells #[.int .i64 kd, .int .i64 0, .int .i64 0, .int .i64 0] 55)) = W4 at *
      have hg := rowLt st.r1
      clear m0 m1 m2 m3 z0 z1 z2 z4
      refine (pick_any R _ size _ st.rd (by omega)).mono ?_
      rintro e w5 ⟨j5, rfl, hj5, hr5, hf5, hs5⟩
      have s5 := st.pick hr5 hf5 (by omega)
      obtain ⟨a1, a2⟩ : 0 ≤ j5 ∧ j5 < size := by omega
      clear st hr5 hf5 hs5 hj5
      obtain ⟨m0, m1, m2, m3⟩ := cells4 s5.r1
      obtain ⟨z0, z1, z2, z4⟩ := frz4 s5.r1
      have s6 := s5.set1 j5 (by unfold cb; omega)
      have e1 : IntKind.i64.wrap (size - j5) = size - j5 := IntWalk.i64_in _ (by omega)
      clear s5
      go_wp2_with fail
      all_goals
        generalize (w5.setCell ⟨w3.heap.size, 1, none⟩ (.int .i64 j5)) = W6 at *
        clear m0 m1 m2 m3 z0 z1 z2 z4
        refine (pick_any R _ _ _ s6.rd (by omega)).mono ?_
        rintro e w7 ⟨j7, rfl, hj7, hr7, hf7, hs7⟩
        have s7 := s6.pick hr7 hf7 (by omega)
        obtain ⟨b1, b2⟩ : 0 ≤ j7 ∧ j7 < 1000000 := by omega
        clear s6 hr7 hf7 hs7 hj7 e1
        obtain ⟨m0, m1, m2, m3⟩ := cells4 s7.r1
        obtain ⟨z0, z1, z2, z4⟩ := frz4 s7.r1
        have e2 : IntKind.i64.wrap (1 + j7) = 1 + j7 := IntWalk.i64_in _ (by omega)
        have s8 := s7.set2 (1 + j7) (by unfold cb; omega)
        clear s7
        by_cases hk2 : kd = 2
        · subst hk2
          go_wp2_with fail
          generalize (w7.setCell ⟨w3.heap.size, 2, none⟩ (.int .i64 (1 + j7))) = W8 at *
          clear m0 m1 m2 m3 z0 z1 z2 z4 e2
          refine (pick_any R _ 256 _ s8.rd (by omega)).mono ?_
          rintro e w9 ⟨j9, rfl, hj9, hr9, hf9, hs9⟩
          have sa := s8.pick hr9 hf9 (by omega)
          obtain ⟨c1, c2⟩ : 0 ≤ j9 ∧ j9 < 256 := by omega
          clear s8 hr9 hf9 hs9 hj9
          obtain ⟨m0, m1, m2, m3⟩ := cells4 sa.r1
          obtain ⟨z0, z1, z2, z4⟩ := frz4 sa.r1
          have s9 := sa.set3 j9 (by unfold cb; omega)
          clear sa
          go_wp2_with fail
          generalize (w9.setCell ⟨w3.heap.size, 3, none⟩ (.int .i64 j9)) = W9 at *
          have hq9 := s9.q_
          refine (odd_any R _ m _ s9.rd (by omega) hm1 hm2).mono ?_
          rintro e w4 ⟨b, q4, rfl, hq4, hr4, hf4, hs4⟩
          have s4 := s9.pick hr4 hf4 (by omega)
          clear s9 hr4 hf4 hs4
          obtain ⟨m0, m1, m2, m3⟩ := cells4 s4.r1
          obtain ⟨y0, y1, y2, y3⟩ := frz4 s4.r0
          obtain ⟨l0, l1, l2, l3⟩ := cells4 s4.r0
          cases b
          · have HO := Lib.hid s4.out
            obtain ⟨n0, n1, n2, n3⟩ := cells4 (set43 (set42 (set41 (set40 s4.r0 (.int .i64 (2))) (.int .i64 (j5))) (.int .i64 ((1 + j7)))) (.int .i64 (j9)))
            clear s4
            go_wp2_with fail
            refine bodyPost_ret (v := .agg #[.int .i64 2, .int .i64 j5, .int .i64 (1 + j7), .int .i64 j9]) (by simp [results, Try.results73, go_sem, n0, n1, n2, n3]) rfl ?_
            exact HO.out
          · clear y0 y1 y2 y3 m0 m1 m2 m3 l0 l1 l2 l3
            go_wp2_with fail
            refine (pick_any R _ 4 _ s4.rd (by omega)).mono ?_
            rintro e w5 ⟨k5, rfl, hk5, hr5, hf5, hs5⟩
            have s5 := s4.pick hr5 hf5 (by omega)
            clear s4 hr5 hf5 hs5
            have HG5 := Lib.hid s5.fr.size
            obtain hk | hk | hk | hk : k5 = 0 ∨ k5 = 1 ∨ k5 = 2 ∨ k5 = 3 := by omega
            · subst hk
              clear hk5
              have s6 := s5.lay (.cells #[.int .i64 0, .int .i64 5] 3)
              have rl := heap_alloc_new w5 (.cells #[.int .i64 0, .int .i64 5] 3)
              skip
              clear s5
              go_wp2_with fail
              generalize (w5.alloc (.cells #[.int .i64 0, .int .i64 5] 3)) = W6 at *
              have hG5 : w.heap.size ≤ w5.heap.size := HG5.out
              have hRg := s6.R_
              have hgl := rowLt rl
              refine (pick_any R _ 2 _ s6.rd (by have := s6.q_; omega)).mono ?_
              rintro e w7 ⟨k7, rfl, hk7, hr7, hf7, hs7⟩
              have s7 := s6.pick hr7 hf7 (by omega)
              have hw5 : R + 1 ≤ w5.heap.size := by have := hG5; omega
              have rl7 := rowFr rl hf7 (.inr hw5)
              obtain ⟨i1, i2⟩ : 0 ≤ k7 ∧ k7 < 2 := by omega
              obtain ⟨x, hx, hpk⟩ := pickL cb [0, 5] k7 (by intro y hy; simp only [List.mem_cons, List.not_mem_nil, or_false] at hy; unfold cb; omega) i1 i2
              have hcv : w7.cell? ⟨w5.heap.size, k7.toNat, none⟩ = some (.int .i64 x) := by rw [cell_of_row w7 _ _ _ _ _ rl7]; exact hpk
              obtain ⟨m0, m1, m2, m3⟩ := cells4 s7.r1
              obtain ⟨z0, z1, z2, z4⟩ := frz4 s7.r1
              obtain ⟨y0, y1, y2, y3⟩ := frz4 s7.r0
              obtain ⟨l0, l1, l2, l3⟩ := cells4 s7.r0
              have s8 := s7.set0 x hx
              have HO := Lib.hid s8.out
              obtain ⟨n0, n1, n2, n3⟩ := cells4 (set43 (set42 (set41 (set40 s8.r0 (.int .i64 (x))) (.int .i64 (j5))) (.int .i64 ((1 + j7)))) (.int .i64 (j9)))
              clear s6 s7 s8 rl rl7 hr7 hf7 hs7 hk7 hpk
              go_wp2_with fail
              refine bodyPost_ret (v := .agg #[.int .i64 x, .int .i64 j5, .int .i64 (1 + j7), .int .i64 j9]) (by simp [results, Try.results73, go_sem, n0, n1, n2, n3]) rfl ?_
              exact HO.out
            · subst hk
              clear hk5
              have s6 := s5.lay (.cells #[.int .i64 (-1), .int .i64 size] 3)
              have rl := heap_alloc_new w5 (.cells #[.int .i64 (-1), .int .i64 size] 3)
              skip
              clear s5
              go_wp2_with fail
              generalize (w5.alloc (.cells #[.int .i64 (-1), .int .i64 size] 3)) = W6 at *
              have hG5 : w.heap.size ≤ w5.heap.size := HG5.out
              have hRg := s6.R_
              have hgl := rowLt rl
              refine (pick_any R _ 2 _ s6.rd (by have := s6.q_; omega)).mono ?_
              rintro e w7 ⟨k7, rfl, hk7, hr7, hf7, hs7⟩
              have s7 := s6.pick hr7 hf7 (by omega)
              have hw5 : R + 1 ≤ w5.heap.size := by have := hG5; omega
              have rl7 := rowFr rl hf7 (.inr hw5)
              obtain ⟨i1, i2⟩ : 0 ≤ k7 ∧ k7 < 2 := by omega
              obtain ⟨x, hx, hpk⟩ := pickL cb [(-1), size] k7 (by intro y hy; simp only [List.mem_cons, List.not_mem_nil, or_false] at hy; unfold cb; omega) i1 i2
              have hcv : w7.cell? ⟨w5.heap.size, k7.toNat, none⟩ = some (.int .i64 x) := by rw [cell_of_row w7 _ _ _ _ _ rl7]; exact hpk
              obtain ⟨m0, m1, m2, m3⟩ := cells4 s7.r1
              obtain ⟨z0, z1, z2, z4⟩ := frz4 s7.r1
              obtain ⟨y0, y1, y2, y3⟩ := frz4 s7.r0
              obtain ⟨l0, l1, l2, l3⟩ := cells4 s7.r0
              have s8 := s7.set1 x hx
              have HO := Lib.hid s8.out
              obtain ⟨n0, n1, n2, n3⟩ := cells4 (set43 (set42 (set41 (set40 s8.r0 (.int .i64 (2))) (.int .i64 (x))) (.int .i64 ((1 + j7)))) (.int .i64 (j9)))
              clear s6 s7 s8 rl rl7 hr7 hf7 hs7 hk7 hpk
              go_wp2_with fail
              refine bodyPost_ret (v := .agg #[.int .i64 2, .int .i64 x, .int .i64 (1 + j7), .int .i64 j9]) (by simp [results, Try.results73, go_sem, n0, n1, n2, n3]) rfl ?_
              exact HO.out
            · subst hk
              clear hk5
              have s6 := s5.lay (.cells #[.int .i64 0, .int .i64 (size + 1), .int .i64 9223372036854775807] 3)
              have rl := heap_alloc_new w5 (.cells #[.int .i64 0, .int .i64 (size + 1), .int .i64 9223372036854775807] 3)
              have e9 : IntKind.i64.wrap (size + 1) = size + 1 := IntWalk.i64_in _ (by omega)
              clear s5
              go_wp2_with fail
              generalize (w5.alloc (.cells #[.int .i64 0, .int .i64 (size + 1), .int .i64 9223372036854775807] 3)) = W6 at *
              have hG5 : w.heap.size ≤ w5.heap.size := HG5.out
              have hRg := s6.R_
              have hgl := rowLt rl
              refine (pick_any R _ 3 _ s6.rd (by have := s6.q_; omega)).mono ?_
              rintro e w7 ⟨k7, rfl, hk7, hr7, hf7, hs7⟩
              have s7 := s6.pick hr7 hf7 (by omega)
              have hw5 : R + 1 ≤ w5.heap.size := by have := hG5; omega
              have rl7 := rowFr rl hf7 (.inr hw5)
              obtain ⟨i1, i2⟩ : 0 ≤ k7 ∧ k7 < 3 := by omega
              obtain ⟨x, hx, hpk⟩ := pickL cb [0, (size + 1), 9223372036854775807] k7 (by intro y hy; simp only [List.mem_cons, List.not_mem_nil, or_false] at hy; unfold cb; omega) i1 i2
              have hcv : w7.cell? ⟨w5.heap.size, k7.toNat, none⟩ = some (.int .i64 x) := by rw [cell_of_row w7 _ _ _ _ _ rl7]; exact hpk
              obtain ⟨m0, m1, m2, m3⟩ := cells4 s7.r1
              obtain ⟨z0, z1, z2, z4⟩ := frz4 s7.r1
              obtain ⟨y0, y1, y2, y3⟩ := frz4 s7.r0
              obtain ⟨l0, l1, l2, l3⟩ := cells4 s7.r0
              have s8 := s7.set2 x hx
              have HO := Lib.hid s8.out
              obtain ⟨n0, n1, n2, n3⟩ := cells4 (set43 (set42 (set41 (set40 s8.r0 (.int .i64 (2))) (.int .i64 (j5))) (.int .i64 (x))) (.int .i64 (j9)))
              clear s6 s7 s8 rl rl7 hr7 hf7 hs7 hk7 hpk
              go_wp2_with fail
              refine bodyPost_ret (v := .agg #[.int .i64 2, .int .i64 j5, .int .i64 x, .int .i64 j9]) (by simp [results, Try.results73, go_sem, n0, n1, n2, n3]) rfl ?_
              exact HO.out
            · subst hk
              clear hk5
              have s6 := s5.lay (.cells #[.int .i64 (-1), .int .i64 256, .int .i64 1] 3)
              have rl := heap_alloc_new w5 (.cells #[.int .i64 (-1), .int .i64 256, .int .i64 1] 3)
              skip
              clear s5
              go_wp2_with fail
              generalize (w5.alloc (.cells #[.int .i64 (-1), .int .i64 256, .int .i64 1] 3)) = W6 at *
              have hG5 : w.heap.size ≤ w5.heap.size := HG5.out
              have hRg := s6.R_
              have hgl := rowLt rl
              refine (pick_any R _ 3 _ s6.rd (by have := s6.q_; omega)).mono ?_
              rintro e w7 ⟨k7, rfl, hk7, hr7, hf7, hs7⟩
              have s7 := s6.pick hr7 hf7 (by omega)
              have hw5 : R + 1 ≤ w5.heap.size := by have := hG5; omega
              have rl7 := rowFr rl hf7 (.inr hw5)
              obtain ⟨i1, i2⟩ : 0 ≤ k7 ∧ k7 < 3 := by omega
              obtain ⟨x, hx, hpk⟩ := pickL cb [(-1), 256, 1] k7 (by intro y hy; simp only [List.mem_cons, List.not_mem_nil, or_false] at hy; unfold cb; omega) i1 i2
              have hcv : w7.cell? ⟨w5.heap.size, k7.toNat, none⟩ = some (.int .i64 x) := by rw [cell_of_row w7 _ _ _ _ _ rl7]; exact hpk
              obtain ⟨m0, m1, m2, m3⟩ := cells4 s7.r1
              obtain ⟨z0, z1, z2, z4⟩ := frz4 s7.r1
              obtain ⟨y0, y1, y2, y3⟩ := frz4 s7.r0
              obtain ⟨l0, l1, l2, l3⟩ := cells4 s7.r0
              have s8 := s7.set3 x hx
              have HO := Lib.hid s8.out
              obtain ⟨n0, n1, n2, n3⟩ := cells4 (set43 (set42 (set41 (set40 s8.r0 (.int .i64 (2))) (.int .i64 (j5))) (.int .i64 ((1 + j7)))) (.int .i64 (x)))
              clear s6 s7 s8 rl rl7 hr7 hf7 hs7 hk7 hpk
              go_wp2_with fail
              refine bodyPost_ret (v := .agg #[.int .i64 2, .int .i64 j5, .int .i64 (1 + j7), .int .i64 x]) (by simp [results, Try.results73, go_sem, n0, n1, n2, n3]) rfl ?_
              exact HO.out
        · have s9 := s8
          clear s8
          go_wp2_with fail
          generalize (w7.setCell ⟨w3.heap.size, 2, none⟩ (.int .i64 (1 + j7))) = W9 at *
          have hq9 := s9.q_
          refine (odd_any R _ m _ s9.rd (by omega) hm1 hm2).mono ?_
          rintro e w4 ⟨b, q4, rfl, hq4, hr4, hf4, hs4⟩
          have s4 := s9.pick hr4 hf4 (by omega)
          clear s9 hr4 hf4 hs4
          obtain ⟨m0, m1, m2, m3⟩ := cells4 s4.r1
          obtain ⟨y0, y1, y2, y3⟩ := frz4 s4.r0
          obtain ⟨l0, l1, l2, l3⟩ := cells4 s4.r0
          cases b
          · have HO := Lib.hid s4.out
            obtain ⟨n0, n1, n2, n3⟩ := cells4 (set43 (set42 (set41 (set40 s4.r0 (.int .i64 (kd))) (.int .i64 (j5))) (.int .i64 ((1 + j7)))) (.int .i64 (0)))
            clear s4
            go_wp2_with fail
            refine bodyPost_ret (v := .agg #[.int .i64 kd, .int .i64 j5, .int .i64 (1 + j7), .int .i64 0]) (by simp [results, Try.results73, go_sem, n0, n1, n2, n3]) rfl ?_
            exact HO.out
          · clear y0 y1 y2 y3 m0 m1 m2 m3 l0 l1 l2 l3
            go_wp2_with fail
            refine (pick_any R _ 4 _ s4.rd (by omega)).mono ?_
            rintro e w5 ⟨k5, rfl, hk5, hr5, hf5, hs5⟩
            have s5 := s4.pick hr5 hf5 (by omega)
            clear s4 hr5 hf5 hs5
            have HG5 := Lib.hid s5.fr.size
            obtain hk | hk | hk | hk : k5 = 0 ∨ k5 = 1 ∨ k5 = 2 ∨ k5 = 3 := by omega
            · subst hk
              clear hk5
              have s6 := s5.lay (.cells #[.int .i64 0, .int .i64 5] 3)
              have rl := heap_alloc_new w5 (.cells #[.int .i64 0, .int .i64 5] 3)
              skip
              clear s5
              go_wp2_with fail
              generalize (w5.alloc (.cells #[.int .i64 0, .int .i64 5] 3)) = W6 at *
              have hG5 : w.heap.size ≤ w5.heap.size := HG5.out
              have hRg := s6.R_
              have hgl := rowLt rl
              refine (pick_any R _ 2 _ s6.rd (by have := s6.q_; omega)).mono ?_
              rintro e w7 ⟨k7, rfl, hk7, hr7, hf7, hs7⟩
              have s7 := s6.pick hr7 hf7 (by omega)
              have hw5 : R + 1 ≤ w5.heap.size := by have := hG5; omega
              have rl7 := rowFr rl hf7 (.inr hw5)
              obtain ⟨i1, i2⟩ : 0 ≤ k7 ∧ k7 < 2 := by omega
              obtain ⟨x, hx, hpk⟩ := pickL cb [0, 5] k7 (by intro y hy; simp only [List.mem_cons, List.not_mem_nil, or_false] at hy; unfold cb; omega) i1 i2
              have hcv : w7.cell? ⟨w5.heap.size, k7.toNat, none⟩ = some (.int .i64 x) := by rw [cell_of_row w7 _ _ _ _ _ rl7]; exact hpk
              obtain ⟨m0, m1, m2, m3⟩ := cells4 s7.r1
              obtain ⟨z0, z1, z2, z4⟩ := frz4 s7.r1
              obtain ⟨y0, y1, y2, y3⟩ := frz4 s7.r0
              obtain ⟨l0, l1, l2, l3⟩ := cells4 s7.r0
              have s8 := s7.set0 x hx
              have HO := Lib.hid s8.out
              obtain ⟨n0, n1, n2, n3⟩ := cells4 (set43 (set42 (set41 (set40 s8.r0 (.int .i64 (x))) (.int .i64 (j5))) (.int .i64 ((1 + j7)))) (.int .i64 (0)))
              clear s6 s7 s8 rl rl7 hr7 hf7 hs7 hk7 hpk
              go_wp2_with fail
              refine bodyPost_ret (v := .agg #[.int .i64 x, .int .i64 j5, .int .i64 (1 + j7), .int .i64 0]) (by simp [results, Try.results73, go_sem, n0, n1, n2, n3]) rfl ?_
              exact HO.out
            · subst hk
              clear hk5
              have s6 := s5.lay (.cells #[.int .i64 (-1), .int .i64 size] 3)
              have rl := heap_alloc_new w5 (.cells #[.int .i64 (-1), .int .i64 size] 3)
              skip
              clear s5
              go_wp2_with fail
              generalize (w5.alloc (.cells #[.int .i64 (-1), .int .i64 size] 3)) = W6 at *
              have hG5 : w.heap.size ≤ w5.heap.size := HG5.out
              have hRg := s6.R_
              have hgl := rowLt rl
              refine (pick_any R _ 2 _ s6.rd (by have := s6.q_; omega)).mono ?_
              rintro e w7 ⟨k7, rfl, hk7, hr7, hf7, hs7⟩
              have s7 := s6.pick hr7 hf7 (by omega)
              have hw5 : R + 1 ≤ w5.heap.size := by have := hG5; omega
              have rl7 := rowFr rl hf7 (.inr hw5)
              obtain ⟨i1, i2⟩ : 0 ≤ k7 ∧ k7 < 2 := by omega
              obtain ⟨x, hx, hpk⟩ := pickL cb [(-1), size] k7 (by intro y hy; simp only [List.mem_cons, List.not_mem_nil, or_false] at hy; unfold cb; omega) i1 i2
              have hcv : w7.cell? ⟨w5.heap.size, k7.toNat, none⟩ = some (.int .i64 x) := by rw [cell_of_row w7 _ _ _ _ _ rl7]; exact hpk
              obtain ⟨m0, m1, m2, m3⟩ := cells4 s7.r1
              obtain ⟨z0, z1, z2, z4⟩ := frz4 s7.r1
              obtain ⟨y0, y1, y2, y3⟩ := frz4 s7.r0
              obtain ⟨l0, l1, l2, l3⟩ := cells4 s7.r0
              have s8 := s7.set1 x hx
              have HO := Lib.hid s8.out
              obtain ⟨n0, n1, n2, n3⟩ := cells4 (set43 (set42 (set41 (set40 s8.r0 (.int .i64 (kd))) (.int .i64 (x))) (.int .i64 ((1 + j7)))) (.int .i64 (0)))
              clear s6 s7 s8 rl rl7 hr7 hf7 hs7 hk7 hpk
              go_wp2_with fail
              refine bodyPost_ret (v := .agg #[.int .i64 kd, .int .i64 x, .int .i64 (1 + j7), .int .i64 0]) (by simp [results, Try.results73, go_sem, n0, n1, n2, n3]) rfl ?_
              exact HO.out
            · subst hk
              clear hk5
              have s6 := s5.lay (.cells #[.int .i64 0, .int .i64 (size + 1), .int .i64 9223372036854775807] 3)
              have rl := heap_alloc_new w5 (.cells #[.int .i64 0, .int .i64 (size + 1), .int .i64 9223372036854775807] 3)
              have e9 : IntKind.i64.wrap (size + 1) = size + 1 := IntWalk.i64_in _ (by omega)
              clear s5
              go_wp2_with fail
              generalize (w5.alloc (.cells #[.int .i64 0, .int .i64 (size + 1), .int .i64 9223372036854775807] 3)) = W6 at *
              have hG5 : w.heap.size ≤ w5.heap.size := HG5.out
              have hRg := s6.R_
              have hgl := rowLt rl
              refine (pick_any R _ 3 _ s6.rd (by have := s6.q_; omega)).mono ?_
              rintro e w7 ⟨k7, rfl, hk7, hr7, hf7, hs7⟩
              have s7 := s6.pick hr7 hf7 (by omega)
              have hw5 : R + 1 ≤ w5.heap.size := by have := hG5; omega
              have rl7 := rowFr rl hf7 (.inr hw5)
              obtain ⟨i1, i2⟩ : 0 ≤ k7 ∧ k7 < 3 := by omega
              obtain ⟨x, hx, hpk⟩ := pickL cb [0, (size + 1), 9223372036854775807] k7 (by intro y hy; simp only [List.mem_cons, List.not_mem_nil, or_false] at hy; unfold cb; omega) i1 i2
              have hcv : w7.cell? ⟨w5.heap.size, k7.toNat, none⟩ = some (.int .i64 x) := by rw [cell_of_row w7 _ _ _ _ _ rl7]; exact hpk
              obtain ⟨m0, m1, m2, m3⟩ := cells4 s7.r1
              obtain ⟨z0, z1, z2, z4⟩ := frz4 s7.r1
              obtain ⟨y0, y1, y2, y3⟩ := frz4 s7.r0
              obtain ⟨l0, l1, l2, l3⟩ := cells4 s7.r0
              have s8 := s7.set2 x hx
              have HO := Lib.hid s8.out
              obtain ⟨n0, n1, n2, n3⟩ := cells4 (set43 (set42 (set41 (set40 s8.r0 (.int .i64 (kd))) (.int .i64 (j5))) (.int .i64 (x))) (.int .i64 (0)))
              clear s6 s7 s8 rl rl7 hr7 hf7 hs7 hk7 hpk
              go_wp2_with fail
              refine bodyPost_ret (v := .agg #[.int .i64 kd, .int .i64 j5, .int .i64 x, .int .i64 0]) (by simp [results, Try.results73, go_sem, n0, n1, n2, n3]) rfl ?_
              exact HO.out
            · subst hk
              clear hk5
              have s6 := s5.lay (.cells #[.int .i64 (-1), .int .i64 256, .int .i64 1] 3)
              have rl := heap_alloc_new w5 (.cells #[.int .i64 (-1), .int .i64 256, .int .i64 1] 3)
              skip
              clear s5
              go_wp2_with fail
              generalize (w5.alloc (.cells #[.int .i64 (-1), .int .i64 256, .int .i64 1] 3)) = W6 at *
              have hG5 : w.heap.size ≤ w5.heap.size := HG5.out
              have hRg := s6.R_
              have hgl := rowLt rl
              refine (pick_any R _ 3 _ s6.rd (by have := s6.q_; omega)).mono ?_
              rintro e w7 ⟨k7, rfl, hk7, hr7, hf7, hs7⟩
              have s7 := s6.pick hr7 hf7 (by omega)
              have hw5 : R + 1 ≤ w5.heap.size := by have := hG5; omega
              have rl7 := rowFr rl hf7 (.inr hw5)
              obtain ⟨i1, i2⟩ : 0 ≤ k7 ∧ k7 < 3 := by omega
              obtain ⟨x, hx, hpk⟩ := pickL cb [(-1), 256, 1] k7 (by intro y hy; simp only [List.mem_cons, List.not_mem_nil, or_false] at hy; unfold cb; omega) i1 i2
              have hcv : w7.cell? ⟨w5.heap.size, k7.toNat, none⟩ = some (.int .i64 x) := by rw [cell_of_row w7 _ _ _ _ _ rl7]; exact hpk
              obtain ⟨m0, m1, m2, m3⟩ := cells4 s7.r1
              obtain ⟨z0, z1, z2, z4⟩ := frz4 s7.r1
              obtain ⟨y0, y1, y2, y3⟩ := frz4 s7.r0
              obtain ⟨l0, l1, l2, l3⟩ := cells4 s7.r0
              have s8 := s7.set3 x hx
              have HO := Lib.hid s8.out
              obtain ⟨n0, n1, n2, n3⟩ := cells4 (set43 (set42 (set41 (set40 s8.r0 (.int .i64 (kd))) (.int .i64 (j5))) (.int .i64 ((1 + j7)))) (.int .i64 (x)))
              clear s6 s7 s8 rl rl7 hr7 hf7 hs7 hk7 hpk
              go_wp2_with fail
              refine bodyPost_ret (v := .agg #[.int .i64 kd, .int .i64 j5, .int .i64 (1 + j7), .int .i64 x]) (by simp [results, Try.results73, go_sem, n0, n1, n2, n3]) rfl ?_
              exact HO.out
end Go.Proofs.Ythnebfcclkebeaa
