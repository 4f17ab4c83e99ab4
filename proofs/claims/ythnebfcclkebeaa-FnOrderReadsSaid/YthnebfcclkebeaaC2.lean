/-
  Walks: toCommand, eqCommand, CommandWord, CommandsClash and ReadCommand of the program and of the reference.
-/
import Derived.Test.YthnebfcclkebeaaC1
namespace Go.Proofs.Ythnebfcclkebeaa
open Go.RowKit

/-- a command as a value of the machine -/
def cmdV (c : Cmd) : Value := .agg #[.int .i64 c.kind, .int .i64 c.pos, .int .i64 c.cnt, .int .i64 c.val]
def ceq (c d : Cmd) : Bool := decide (c.kind = d.kind ∧ c.pos = d.pos ∧ c.cnt = d.cnt ∧ c.val = d.val)
theorem ceq_iff (c d : Cmd) : ceq c d = true ↔ c = d := by
  obtain ⟨k, p, n, v⟩ := c
  obtain ⟨k', p', n', v'⟩ := d
  simp [ceq]
theorem ceq_refl (c : Cmd) : ceq c c = true := (ceq_iff c c).2 rfl
theorem below_set {B : Nat} {w w' : World} (h : Below B w w') (p : Addr) (u : Value) (hp : B ≤ p.block) : Below B w (w'.setCell p u) :=
  ⟨h.os, h.tape, h.output, by rw [World.size_setCell]; exact h.size, fun k hk => (heap_setCell_other w' p k u (by omega)).trans (h.block k hk)⟩
/-- a boxed struct of four fields behind a call -/
theorem box4 {w w' : World} {a b c d : Value} {t : TypeId} (h : Below (w.alloc (.cells #[a, b, c, d] t)).heap.size (w.alloc (.cells #[a, b, c, d] t)) w') :
    w'.cell? ⟨w.heap.size, 0, none⟩ = some a ∧ w'.cell? ⟨w.heap.size, 1, none⟩ = some b ∧ w'.cell? ⟨w.heap.size, 2, none⟩ = some c ∧ w'.cell? ⟨w.heap.size, 3, none⟩ = some d := by
  have e : ∀ i, w'.cell? ⟨w.heap.size, i, none⟩ = (w.alloc (.cells #[a, b, c, d] t)).cell? ⟨w.heap.size, i, none⟩ := fun i => h.cell (p := ⟨w.heap.size, i, none⟩) (by rw [World.size_alloc]; exact Nat.lt_succ_self _)
  simp [e]
theorem box44 {w w' : World} {a b c d a' b' c' d' : Value} {t : TypeId} (h : Below ((w.alloc (.cells #[a, b, c, d] t)).alloc (.cells #[a', b', c', d'] t)).heap.size ((w.alloc (.cells #[a, b, c, d] t)).alloc (.cells #[a', b', c', d'] t)) w') :
    (w'.cell? ⟨w.heap.size, 0, none⟩ = some a ∧ w'.cell? ⟨w.heap.size, 1, none⟩ = some b ∧ w'.cell? ⟨w.heap.size, 2, none⟩ = some c ∧ w'.cell? ⟨w.heap.size, 3, none⟩ = some d) ∧
    (w'.cell? ⟨w.heap.size + 1, 0, none⟩ = some a' ∧ w'.cell? ⟨w.heap.size + 1, 1, none⟩ = some b' ∧ w'.cell? ⟨w.heap.size + 1, 2, none⟩ = some c' ∧ w'.cell? ⟨w.heap.size + 1, 3, none⟩ = some d') := by
  have e : ∀ k i, k < w.heap.size + 2 → w'.cell? ⟨k, i, none⟩ = ((w.alloc (.cells #[a, b, c, d] t)).alloc (.cells #[a', b', c', d'] t)).cell? ⟨k, i, none⟩ := fun k i hk => h.cell (p := ⟨k, i, none⟩) (by rw [World.size_alloc, World.size_alloc]; exact hk)
  refine ⟨?_, ?_⟩
  · have := fun i => e w.heap.size i (by omega)
    simp [this]
  · have := fun i => e (w.heap.size + 1) i (by omega)
    simp [this]
/-- the block that the call laid first, behind a call of its own -/
theorem row0 {w w' : World} {cs : Array Value} {t : TypeId} {B : Nat} (h : Below B (w.alloc (.cells cs t)) w') (hB : w.heap.size < B) : w'.heap[w.heap.size]? = some (.cells cs t (0, 0)) := by
  rw [h.block _ hB]; exact heap_alloc_new w _
theorem keepRow {w w' : World} {g : Nat} {o : Obj} (e : w.heap[g]? = some o) (b : Below w.heap.size w w') : w'.heap[g]? = some o := by
  rw [b.block g (Array.getElem?_eq_some_iff.1 e).1]; exact e
theorem cells4 {w : World} {g : Nat} {a b c d : Value} {t : TypeId} {fr : Nat × Nat} (e : w.heap[g]? = some (.cells #[a, b, c, d] t fr)) :
    w.cell? ⟨g, 0, none⟩ = some a ∧ w.cell? ⟨g, 1, none⟩ = some b ∧ w.cell? ⟨g, 2, none⟩ = some c ∧ w.cell? ⟨g, 3, none⟩ = some d :=
  ⟨cell_of_row w g 0 _ t fr e, cell_of_row w g 1 _ t fr e, cell_of_row w g 2 _ t fr e, cell_of_row w g 3 _ t fr e⟩
theorem set_at {w : World} {g : Nat} {cs : Array Value} {t : TypeId} (h : w.heap[g]? = some (.cells cs t (0, 0))) (j : Nat) (hj : j < cs.size) (u : Value) : (w.setCell ⟨g, j, none⟩ u).cell? ⟨g, j, none⟩ = some u := by
  rw [cell_of_row _ g j _ t (0, 0) (heap_setCell_same w g j cs t u h)]
  simp [hj]
theorem frz {w : World} {g : Nat} {a b c d : Value} {t : TypeId} (e : w.heap[g]? = some (.cells #[a, b, c, d] t (0, 0))) :
    w.frozen? ⟨g, 0, none⟩ = false ∧ w.frozen? ⟨g, 1, none⟩ = false ∧ w.frozen? ⟨g, 2, none⟩ = false ∧ w.frozen? ⟨g, 3, none⟩ = false :=
  ⟨frozen_of_row w _ 0 _ t e, frozen_of_row w _ 1 _ t e, frozen_of_row w _ 2 _ t e, frozen_of_row w _ 3 _ t e⟩
theorem res4 {w : World} {g : Nat} {a b c d : Value} {t : TypeId} (e : w.heap[g]? = some (.cells #[a, b, c, d] t (0, 0))) (a' b' c' d' : Value) :
    (w.setCell ⟨g, 0, none⟩ a').cell? ⟨g, 0, none⟩ = some a' ∧ ((w.setCell ⟨g, 0, none⟩ a').setCell ⟨g, 1, none⟩ b').cell? ⟨g, 1, none⟩ = some b' ∧
    (((w.setCell ⟨g, 0, none⟩ a').setCell ⟨g, 1, none⟩ b').setCell ⟨g, 2, none⟩ c').cell? ⟨g, 2, none⟩ = some c' ∧
    ((((w.setCell ⟨g, 0, none⟩ a').setCell ⟨g, 1, none⟩ b').setCell ⟨g, 2, none⟩ c').setCell ⟨g, 3, none⟩ d').cell? ⟨g, 3, none⟩ = some d' := by
  have e0 := heap_setCell_same w g 0 _ t a' e
  have e1 := heap_setCell_same _ g 1 _ t b' e0
  have e2 := heap_setCell_same _ g 2 _ t c' e1
  exact ⟨set_at e 0 (by simp) _, set_at e0 1 (by simp) _, set_at e1 2 (by simp) _, set_at e2 3 (by simp) _⟩
theorem below_set4 {B g : Nat} {w w' : World} (h : Below B w w') (hg : B ≤ g) (a b c d : Value) : Below B w ((((w'.setCell ⟨g, 0, none⟩ a).setCell ⟨g, 1, none⟩ b).setCell ⟨g, 2, none⟩ c).setCell ⟨g, 3, none⟩ d) :=
  (((h.setCell hg a).setCell hg b).setCell hg c).setCell hg d
theorem toCommand_any (c : Cmd) (w : World) :
    Calls Try.prog 48 #[cmdV c] w (RetPure w (cmdV c)) := by
  obtain ⟨k, p, n, v⟩ := c
  simp only [cmdV]
  go_enter Try.func48, Try.ntmps48
  go_wp2_with fail
  all_goals
    refine bodyPost_ret (v := .agg #[.int .i64 k, .int .i64 p, .int .i64 n, .int .i64 v]) (by simp [results, Try.results48, go_sem]) rfl ⟨rfl, ?_⟩
    exact ((below_new _ _).alloc (Nat.le_of_lt (by simp)) _).alloc (Nat.le_of_lt (by simp; omega)) _
theorem eqCommand_any (c d : Cmd) (w : World) :
    Calls Try.prog 52 #[cmdV c, cmdV d] w (RetPure w (.bool (ceq c d))) := by
  obtain ⟨k, p, n, v⟩ := c
  obtain ⟨k', p', n', v'⟩ := d
  simp only [cmdV]
  go_enter Try.func52, Try.ntmps52
  go_wp2_with fail
  all_goals
    go_ret
    refine ⟨ret_bool ?_, (below_new _ _).alloc (Nat.le_of_lt (by simp)) _⟩
    rw [Bool.eq_iff_iff]
    simp only [ceq, decide_eq_true_iff, bne_iff_ne, ne_eq, bne_eq_false_iff_eq, Bool.false_eq_true, false_iff, true_iff] at *
    omega
theorem specCommandsClash_any (c d : Cmd) (w : World) :
    Calls Try.prog 68 #[cmdV c, cmdV d] w (RetPure w (.bool (clash c d))) := by
  obtain ⟨k, p, n, v⟩ := c
  obtain ⟨k', p', n', v'⟩ := d
  simp only [cmdV]
  cases hc : cval ⟨k, p, n, v⟩ 64 with
  | false =>
    rw [show clash ⟨k, p, n, v⟩ ⟨k', p', n', v'⟩ = false by simp [clash, hc]]
    go_enter Try.func68, Try.ntmps68
    go_wp2_with (go_at_call 61; refine (specCommandValid_any k p n v _ _ (by omega)).mono ?_; rw [hc]; rintro e w' ⟨rfl, hbel⟩)
    all_goals
      go_ret
      exact ⟨rfl, below_later ((below_new _ _).alloc (Nat.le_of_lt (by simp)) _) hbel (by simp <;> omega)⟩
  | true =>
    cases hd : cval ⟨k', p', n', v'⟩ 64 with
    | false =>
      rw [show clash ⟨k, p, n, v⟩ ⟨k', p', n', v'⟩ = false by simp [clash, hd]]
      go_enter Try.func68, Try.ntmps68
      go_wp2_with fail
      refine (specCommandValid_any k p n v _ _ (by omega)).mono ?_
      rw [hc]
      rintro e w' ⟨rfl, hbel⟩
      obtain ⟨⟨m0, m1, m2, m3⟩, l0, l1, l2, l3⟩ := box44 hbel
      go_wp2_with fail
      refine (specCommandValid_any k' p' n' v' _ _ (by omega)).mono ?_
      rw [hd]
      rintro e w2 ⟨rfl, hbel2⟩
      go_wp2_with fail
      all_goals
        go_ret
        exact ⟨rfl, below_later ((below_new _ _).alloc (Nat.le_of_lt (by simp)) _) (below_later hbel hbel2 (Nat.le_refl _)) (by simp <;> omega)⟩
    | true =>
      have hcv := (cval_iff _ _).1 hc
      have hdv := (cval_iff _ _).1 hd
      simp only at hcv hdv
      go_enter Try.func68, Try.ntmps68
      go_wp2_with fail
      refine (specCommandValid_any k p n v _ _ (by omega)).mono ?_
      rw [hc]
      rintro e w' ⟨rfl, hbel⟩
      obtain ⟨⟨m0, m1, m2, m3⟩, l0, l1, l2, l3⟩ := box44 hbel
      go_wp2_with fail
      refine (specCommandValid_any k' p' n' v' _ _ (by omega)).mono ?_
      rw [hd]
      rintro e w2 ⟨rfl, hbel2⟩
      clear m0 m1 m2 m3 l0 l1 l2 l3
      obtain ⟨⟨m0, m1, m2, m3⟩, l0, l1, l2, l3⟩ := box44 (below_later hbel hbel2 (Nat.le_refl _))
      go_wp2_with fail
      all_goals
        go_ret
        refine ⟨ret_bool ?_, below_later ((below_new _ _).alloc (Nat.le_of_lt (by simp)) _) (below_later hbel hbel2 (Nat.le_refl _)) (by simp <;> omega)⟩
        rw [Bool.eq_iff_iff, clash_iff]
        simp only [hc, hd, true_and, decide_eq_true_iff, Bool.and_eq_true, beq_iff_eq, bne_iff_ne, ne_eq, beq_eq_false_iff_ne, Bool.false_eq_true, false_iff, true_iff] at *
        omega
theorem implCommandsClash_any (c d : Cmd) (w : World) :
    Calls Try.prog 58 #[cmdV c, cmdV d] w (RetPure w (.bool (clash c d))) := by
  obtain ⟨k, p, n, v⟩ := c
  obtain ⟨k', p', n', v'⟩ := d
  simp only [cmdV]
  cases hc : cval ⟨k, p, n, v⟩ 64 with
  | false =>
    rw [show clash ⟨k, p, n, v⟩ ⟨k', p', n', v'⟩ = false by simp [clash, hc]]
    go_enter Try.func58, Try.ntmps58
    go_wp2_with (go_at_call 65; refine (implCommandValid_any k p n v _ _ (by omega)).mono ?_; rw [hc]; rintro e w' ⟨rfl, hbel⟩)
    all_goals
      go_ret
      exact ⟨rfl, below_later ((below_new _ _).alloc (Nat.le_of_lt (by simp)) _) hbel (by simp <;> omega)⟩
  | true =>
    cases hd : cval ⟨k', p', n', v'⟩ 64 with
    | false =>
      rw [show clash ⟨k, p, n, v⟩ ⟨k', p', n', v'⟩ = false by simp [clash, hd]]
      go_enter Try.func58, Try.ntmps58
      go_wp2_with fail
      refine (implCommandValid_any k p n v _ _ (by omega)).mono ?_
      rw [hc]
      rintro e w' ⟨rfl, hbel⟩
      obtain ⟨⟨m0, m1, m2, m3⟩, l0, l1, l2, l3⟩ := box44 hbel
      go_wp2_with fail
      refine (implCommandValid_any k' p' n' v' _ _ (by omega)).mono ?_
      rw [hd]
      rintro e w2 ⟨rfl, hbel2⟩
      go_wp2_with fail
      all_goals
        go_ret
        exact ⟨rfl, below_later ((below_new _ _).alloc (Nat.le_of_lt (by simp)) _) (below_later hbel hbel2 (Nat.le_refl _)) (by simp <;> omega)⟩
    | true =>
      have hcv := (cval_iff _ _).1 hc
      have hdv := (cval_iff _ _).1 hd
      simp only at hcv hdv
      go_enter Try.func58, Try.ntmps58
      go_wp2_with fail
      refine (implCommandValid_any k p n v _ _ (by omega)).mono ?_
      rw [hc]
      rintro e w' ⟨rfl, hbel⟩
      obtain ⟨⟨m0, m1, m2, m3⟩, l0, l1, l2, l3⟩ := box44 hbel
      go_wp2_with fail
      refine (implCommandValid_any k' p' n' v' _ _ (by omega)).mono ?_
      rw [hd]
      rintro e w2 ⟨rfl, hbel2⟩
      clear m0 m1 m2 m3 l0 l1 l2 l3
      obtain ⟨⟨m0, m1, m2, m3⟩, l0, l1, l2, l3⟩ := box44 (below_later hbel hbel2 (Nat.le_refl _))
      go_wp2_with fail
      all_goals
        go_ret
        refine ⟨ret_bool ?_, below_later ((below_new _ _).alloc (Nat.le_of_lt (by simp)) _) (below_later hbel hbel2 (Nat.le_refl _)) (by simp <;> omega)⟩
        rw [Bool.eq_iff_iff, clash_iff]
        simp only [hc, hd, true_and, decide_eq_true_iff, Bool.and_eq_true, beq_iff_eq, bne_iff_ne, ne_eq, beq_eq_false_iff_ne, Bool.false_eq_true, false_iff, true_iff] at *
        omega
end Go.Proofs.Ythnebfcclkebeaa
