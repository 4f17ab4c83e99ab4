/-
  The laws' loops over rings: emptying a ring by RingPop, filling it by RingPush.
-/
import Derived.Test.YtmbfdjompgndiaaR9
import Derived.Test.YtmbfdjompgndiaaR7
namespace Go.Proofs.Ytmbfdjompgndiaa
open Go.RowKit
theorem rlist_pop (r : Rng) (v : Int) (l : List Int) (h : rlist r = v :: l) : ∃ d hd tl, rpop r = ⟨d, hd, tl⟩ ∧ rpopped r = true ∧ rtop r = v ∧ rlist ⟨d, hd, tl⟩ = l := by
  cases hv : rval r with
  | false => rw [rlist_no r hv] at h; cases h
  | true =>
    cases hn : rnone r with
    | true =>
      have h0 := (rcn_none r hv).2 hn
      have h1 := rls_length r
      rw [rlist_of r hv] at h
      rw [h, h0] at h1
      simp at h1
    | false =>
      have h1 := rcut_list r hv hn
      rw [rlist_of r hv, h1] at h
      have h2 := List.cons.inj h
      have hp := rpop_cut r hv hn
      exact ⟨(rcut r).slots, (rcut r).head, (rcut r).tail, hp.1, hp.2.1, hp.2.2.trans h2.1, (rlist_of _ (rcut_val r hv)).trans h2.2⟩
theorem rlist_done (r : Rng) (h : rlist r = []) : rcount r ≤ 0 := by
  unfold rcount
  split
  · next hv =>
    have h1 := rls_length r
    rw [rlist_of r hv] at h
    rw [h] at h1
    have h2 := rcn_bd r hv
    simp at h1
    omega
  · omega
theorem rpush_more (r : Rng) (v : Int) (hv : rval r = true) (h : rcn r + 1 < (r.slots.length : Int)) : ∃ d hd tl, rpush r v = ⟨d, hd, tl⟩ ∧ rpushed r = true ∧ rval ⟨d, hd, tl⟩ = true ∧ rcn ⟨d, hd, tl⟩ = rcn r + 1 ∧ d.length = r.slots.length := by
  have hf : rfull r = false := by unfold rfull; exact decide_eq_false (by omega)
  have hp := rpush_put r v hv hf
  exact ⟨(rput r v).slots, (rput r v).head, (rput r v).tail, hp.1, hp.2, rput_val r hv v, rput_cn r hv v hf, by simp [rput]⟩
theorem rpush_last (r : Rng) (v : Int) (hv : rval r = true) (h : rcn r + 1 = (r.slots.length : Int)) : rpush r v = r ∧ rpushed r = false :=
  rpush_full r v hv (by unfold rfull; exact decide_eq_true (by omega))
theorem rcount_of (r : Rng) (hv : rval r = true) : rcount r = rcn r := by unfold rcount; rw [if_pos hv]
/-- a ring in the law's box, behind some stores -/
structure AtBox (w wr : World) (g : Nat) (A : Option Addr) (c : Nat) (d : List Int) (hd tl : Int) (lo hi : Nat) : Prop where
  row : wr.heap[g]? = some (.cells #[.slice A d.length c, .int .i64 hd, .int .i64 tl] 27 (0, 0))
  own : Own wr lo hi 3 1 A d.length c (ints d)
  off : hi ≤ g ∨ g < lo
  hi_ : hi ≤ wr.heap.size
  bel : Below w.heap.size w wr
  in_ : w.heap.size ≤ g ∧ g < wr.heap.size
/-- a new ring is laid in a box of its own, and copied into the law's box -/
theorem AtBox.next {w wr w7 : World} {g : Nat} {A A2 : Option Addr} {c c2 : Nat} {d d2 : List Int} {hd tl h2 t2 : Int} {lo hi : Nat} (s : AtBox w wr g A c d hd tl lo hi) (b7 : Below wr.heap.size wr w7)
    (o2 : Own w7 wr.heap.size w7.heap.size 3 1 A2 d2.length c2 (ints d2)) :
    AtBox w ((((w7.alloc (.cells #[.slice A2 d2.length c2, .int .i64 h2, .int .i64 t2] 27)).setCell ⟨g, 0, none⟩ (.slice A2 d2.length c2)).setCell ⟨g, 1, none⟩ (.int .i64 h2)).setCell ⟨g, 2, none⟩ (.int .i64 t2)) g A2 c2 d2 h2 t2 wr.heap.size w7.heap.size := by
  have s7 := b7.size
  have hin := s.in_
  have r2 := rowKeep (rowKeep s.row b7) (below_new w7 (.cells #[.slice A2 d2.length c2, .int .i64 h2, .int .i64 t2] 27))
  have p2 := o2.below (below_new w7 (.cells #[.slice A2 d2.length c2, .int .i64 h2, .int .i64 t2] 27))
  have B2 := below_later (below_later s.bel b7 (Nat.le_refl _)) (below_new w7 (.cells #[.slice A2 d2.length c2, .int .i64 h2, .int .i64 t2] 27)) (Nat.le_refl _)
  refine ⟨set32 (set31 (set30 r2 _) _) _, ((p2.setOther _ _ (.inl ?_)).setOther _ _ (.inl ?_)).setOther _ _ (.inl ?_), .inr (by omega), ?_, ((B2.setCell ?_ _).setCell ?_ _).setCell ?_ _, hin.1, ?_⟩
  · show g < _; omega
  · show g < _; omega
  · show g < _; omega
  · simp only [World.size_setCell, World.size_alloc]; omega
  · show _ ≤ g; omega
  · show _ ≤ g; omega
  · show _ ≤ g; omega
  · simp only [World.size_setCell, World.size_alloc]; omega
/-- another row of the law's stands the same while -/
theorem Own.nextRing {w7 : World} {g lo hi s n c : Nat} {e t : TypeId} {A : Option Addr} {xs : List Value} {cs : Array Value} {u0 u1 u2 : Value} (o : Own w7 lo hi e s A n c xs) (h : g < lo) :
    Own ((((w7.alloc (.cells cs t)).setCell ⟨g, 0, none⟩ u0).setCell ⟨g, 1, none⟩ u1).setCell ⟨g, 2, none⟩ u2) lo hi e s A n c xs :=
  (((o.below (below_new _ _)).setOther _ _ (.inl h)).setOther _ _ (.inl h)).setOther _ _ (.inl h)
end Go.Proofs.Ytmbfdjompgndiaa
