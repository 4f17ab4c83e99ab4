/-
  Walks: RingPop of the program and of the reference.
-/
import Derived.Test.YtcbdphflockopaaR5
namespace Go.Proofs.Ytcbdphflockopaa
open Go.RowKit
def popV (h t x : Int) (b : Bool) (v : Value) : Value := .tuple #[ringV h t v, .int .i64 x, .bool b]
theorem rpop_no (r : Rng) (h : rval r = false) : rpop r = rz ∧ rpopped r = false ∧ rtop r = 0 := by
  have h1 : rpopped r = false := by unfold rpopped; rw [h]; rfl
  exact ⟨by unfold rpop; rw [if_neg (by simp [h])], h1, by unfold rtop; rw [if_neg (by simp [h1])]⟩
theorem rpop_none (r : Rng) (h : rval r = true) (hn : rnone r = true) : rpop r = r ∧ rpopped r = false ∧ rtop r = 0 := by
  have h1 : rpopped r = false := by unfold rpopped; rw [h, hn]; rfl
  exact ⟨by unfold rpop; rw [if_pos h, if_pos hn], h1, by unfold rtop; rw [if_neg (by simp [h1])]⟩
theorem rpop_cut (r : Rng) (h : rval r = true) (hn : rnone r = false) : rpop r = rcut r ∧ rpopped r = true ∧ rtop r = r.slots.getD r.head.toNat 0 := by
  have h1 : rpopped r = true := by unfold rpopped; rw [h, hn]; rfl
  exact ⟨by unfold rpop; rw [if_pos h, if_neg (by simp [hn])], h1, by unfold rtop; rw [if_pos h1]⟩
set_option maxHeartbeats 400000 in
theorem specRingPop_any (A : Option Addr) (n c B : Nat) (d : List Int) (hd tl : Int) (w : World) (h : Sees w B 1 A n c (ints d)) (hB : B ≤ w.heap.size) :
    Calls Try.prog 6 #[.agg #[.slice A n c, .int .i64 hd, .int .i64 tl]] w (RetF w 3 1 (rpop ⟨d, hd, tl⟩).slots.length (ints (rpop ⟨d, hd, tl⟩).slots) (popV (rpop ⟨d, hd, tl⟩).head (rpop ⟨d, hd, tl⟩).tail (rtop ⟨d, hd, tl⟩) (rpopped ⟨d, hd, tl⟩))) := by
  obtain rfl := h.int
  have hc1 := h.cap
  have hc2 := h.big
  have b0 : Below w.heap.size w ((w.alloc (.cells #[.slice A d.length c, .int .i64 hd, .int .i64 tl] 25)).alloc (.cells #[.slice none 0 0, .int .i64 0, .int .i64 0] 25)) := (below_new _ _).alloc (Nat.le_of_lt (by simp)) _
  have h0 := h.below b0 hB
  cases hv : rval ⟨d, hd, tl⟩ with
  | false =>
    have HP := Lib.hid (rpop_no ⟨d, hd, tl⟩ hv)
    go_enter Try.func6, Try.ntmps6
    go_wp2_with fail
    refine (specRingValid_any _ _ _ _ _ _ _ _ h0).mono ?_
    rw [hv]
    rintro e w1 ⟨rfl, b1⟩
    obtain ⟨r0, r1, z1, B1⟩ := rows2 b1
    clear h0 b0
    obtain ⟨n0, n1, n2⟩ := cells3 r1
    obtain ⟨f0, f1, f2⟩ := frz3 r1
    go_wp2_with fail
    refine bodyPost_ret (v := .tuple #[.agg #[.slice none 0 0, .int .i64 0, .int .i64 0], .int .i64 0, .bool false]) (by simp [results, Try.results6, go_sem, n0, n1, n2]) rfl ?_
    rw [HP.out.1, HP.out.2.1, HP.out.2.2]
    exact RetF.of (f := popV 0 0 0 false) (Own.nil _ w.heap.size w.heap.size _ _) (Nat.le_refl _) (by simp <;> omega) (((B1.setCell (by simp) _).setCell (by simp) _).setCell (by simp) _)
  | true =>
    have hv' := (rval_iff _).1 hv
    simp only at hv'
    have HF := Lib.hid (fun hf => rpop_none ⟨d, hd, tl⟩ hv hf)
    have HQ := Lib.hid (fun hf => rpop_cut ⟨d, hd, tl⟩ hv hf)
    go_enter Try.func6, Try.ntmps6
    go_wp2_with fail
    refine (specRingValid_any _ _ _ _ _ _ _ _ h0).mono ?_
    rw [hv]
    rintro e w1 ⟨rfl, b1⟩
    obtain ⟨r0, r1, z1, B1⟩ := rows2 b1
    clear h0 b0 b1
    have h1 := h.below B1 hB
    obtain ⟨m0, m1, m2⟩ := cells3 r0
    go_wp2_with fail
    refine (l3Copy_any _ _ _ _ _ _ _ _ h1 (by omega) (by omega)).mono ?_
    rintro e w2 ⟨A2, c2, rfl, o2, b2⟩
    simp only [ringV]
    clear m0 m1 m2
    have r0' := rowKeep r0 b2
    have r1' := rowKeep r1 b2
    have B2 := below_later B1 b2 (Nat.le_refl _)
    have s2 := b2.size
    clear r0 r1 b2 h1
    have g2 := below_new w2 (.cells #[.slice A2 d.length c2, .int .i64 hd, .int .i64 tl] 25)
    obtain ⟨m0, m1, m2⟩ := cells3 (rowKeep r0' g2)
    have zb : rnone ⟨d, hd, tl⟩ = (hd == tl) := by unfold rnone; rw [Bool.eq_iff_iff]; simp
    cases hn : rnone ⟨d, hd, tl⟩ with
    | true =>
      have HX := Lib.hid (HF.out hn)
      rw [hn] at zb
      have hb : (hd == tl) = true := zb.symm
      clear zb hn
      have x2 : (w2.alloc (.cells #[.slice A2 d.length c2, .int .i64 hd, .int .i64 tl] 25)).heap[w2.heap.size]? = some (.cells #[.slice A2 d.length c2, .int .i64 hd, .int .i64 tl] 25 (0, 0)) := heap_alloc_new w2 _
      have x1 := rowKeep r1' g2
      have p2 := o2.below g2
      have B3 := below_later B2 g2 (Nat.le_refl _)
      have zz : w2.heap.size < (w2.alloc (.cells #[.slice A2 d.length c2, .int .i64 hd, .int .i64 tl] 25)).heap.size := by rw [World.size_alloc]; omega
      obtain ⟨n0, n1, n2⟩ := cells3 x1
      obtain ⟨nf0, nf1, nf2⟩ := frz3 x1
      obtain ⟨q0, q1, q2⟩ := cells3 x2
      obtain ⟨k0, k1, k2⟩ := cells3 (set32 (set31 (set30 x1 (.slice A2 d.length c2)) (.int .i64 hd)) (.int .i64 tl))
      clear g2 o2 HF HQ
      go_wp2_with fail
      generalize (w2.alloc (.cells #[.slice A2 d.length c2, .int .i64 hd, .int .i64 tl] 25)) = W at *
      refine bodyPost_ret (v := .tuple #[.agg #[.slice A2 d.length c2, .int .i64 hd, .int .i64 tl], .int .i64 0, .bool false]) (by simp [results, Try.results6, go_sem, k0, k1, k2]) rfl ?_
      rw [HX.out.1, HX.out.2.1, HX.out.2.2]
      exact RetF.of (f := popV hd tl 0 false) (((p2.setOther ⟨w.heap.size + 1, 0, none⟩ _ (.inl (by simp <;> omega))).setOther ⟨w.heap.size + 1, 1, none⟩ _ (.inl (by simp <;> omega))).setOther ⟨w.heap.size + 1, 2, none⟩ _ (.inl (by simp <;> omega))) (by omega) (by simp <;> omega) (((B3.setCell (by simp) _).setCell (by simp) _).setCell (by simp) _)
    | false =>
      have HX := Lib.hid (HQ.out hn)
      rw [hn] at zb
      have hb : (hd == tl) = false := zb.symm
      clear zb hn g2
      obtain ⟨t, rfl⟩ := Int.eq_ofNat_of_zero_le hv'.2.1.1
      have hlt : t < d.length := by omega
      have hz : ((d.length : Int) == 0) = false := beq_eq_false_iff_ne.2 (by omega)
      have hgd : d.getD t 0 = d[t] := by simp [hlt]
      obtain ⟨b, o, rfl, hbB, hcell⟩ := h.int_at (by omega)
      have hcl := hcell t hlt
      rw [← hgd] at hcl
      clear hcell hgd
      have HY : Hid (rtop ⟨d, (t : Int), tl⟩ = d.getD t 0) := Lib.hid (by rw [HX.out.2.2]; rfl)
      generalize d.getD t 0 = x at *
      have g3 := below_new w2 (.cells #[.slice A2 d.length c2, .int .i64 (((t : Int) + 1) % (d.length : Int)), .int .i64 tl] 25)
      have x2 : (w2.alloc (.cells #[.slice A2 d.length c2, .int .i64 (((t : Int) + 1) % (d.length : Int)), .int .i64 tl] 25)).heap[w2.heap.size]? = some (.cells #[.slice A2 d.length c2, .int .i64 (((t : Int) + 1) % (d.length : Int)), .int .i64 tl] 25 (0, 0)) := heap_alloc_new w2 _
      have x0 := rowKeep r0' g3
      have x1 := rowKeep r1' g3
      have p2 := o2.below g3
      have B3 := below_later B2 g3 (Nat.le_refl _)
      have hx : (w2.alloc (.cells #[.slice A2 d.length c2, .int .i64 (((t : Int) + 1) % (d.length : Int)), .int .i64 tl] 25)).cell? ⟨b, o + t, none⟩ = some (.int .i64 x) := (B3.cell (p := ⟨b, o + t, none⟩) (by show b < _; omega)).trans hcl
      have zz : w2.heap.size < (w2.alloc (.cells #[.slice A2 d.length c2, .int .i64 (((t : Int) + 1) % (d.length : Int)), .int .i64 tl] 25)).heap.size := by rw [World.size_alloc]; omega
      have i1 : (0 : Int) ≤ (t : Int) := by omega
      have i2 : (t : Int) < (d.length : Int) := by omega
      go_upto_region 7 with fail
      clear m0 m1 m2 hcl g3 o2 HF HQ
      generalize (w2.alloc (.cells #[.slice A2 d.length c2, .int .i64 (((t : Int) + 1) % (d.length : Int)), .int .i64 tl] 25)) = W at *
      obtain ⟨m0, m1, m2⟩ := cells3 x0
      obtain ⟨n0, n1, n2⟩ := cells3 x1
      obtain ⟨nf0, nf1, nf2⟩ := frz3 x1
      obtain ⟨q0, q1, q2⟩ := cells3 x2
      have HD : Hid (((t : Int) + 1) % (d.length : Int) = ((t : Int) + 1) % (d.length : Int)) := Lib.hid rfl
      generalize hhd : (((t : Int) + 1) % (d.length : Int)) = hd' at x2 q0 q1 q2 ⊢
      replace HD := Lib.hid hhd
      clear hhd
      have hbne : b ≠ w.heap.size + 1 := by omega
      have x25 := rowSet (rowSet (rowSet x2 ⟨w.heap.size + 1, 0, none⟩ (.slice A2 d.length c2) (by simp <;> omega)) ⟨w.heap.size + 1, 1, none⟩ (.int .i64 hd') (by simp <;> omega)) ⟨w.heap.size + 1, 2, none⟩ (.int .i64 tl) (by simp <;> omega)
      have x05 := rowSet (rowSet (rowSet x0 ⟨w.heap.size + 1, 0, none⟩ (.slice A2 d.length c2) (by simp)) ⟨w.heap.size + 1, 1, none⟩ (.int .i64 hd') (by simp)) ⟨w.heap.size + 1, 2, none⟩ (.int .i64 tl) (by simp)
      have x15 := set32 (set31 (set30 x1 (.slice A2 d.length c2)) (.int .i64 hd')) (.int .i64 tl)
      have hx5 := (World.cell?_setCell_other (((W.setCell ⟨w.heap.size + 1, 0, none⟩ (.slice A2 d.length c2)).setCell ⟨w.heap.size + 1, 1, none⟩ (.int .i64 hd'))) ⟨w.heap.size + 1, 2, none⟩ ⟨b, o + t, none⟩ (.int .i64 tl) (by simp <;> omega)).trans ((World.cell?_setCell_other (W.setCell ⟨w.heap.size + 1, 0, none⟩ (.slice A2 d.length c2)) ⟨w.heap.size + 1, 1, none⟩ ⟨b, o + t, none⟩ (.int .i64 hd') (by simp <;> omega)).trans ((World.cell?_setCell_other W ⟨w.heap.size + 1, 0, none⟩ ⟨b, o + t, none⟩ (.slice A2 d.length c2) (by simp <;> omega)).trans hx))
      have p5 := ((p2.setOther ⟨w.heap.size + 1, 0, none⟩ (.slice A2 d.length c2) (.inl (by simp <;> omega))).setOther ⟨w.heap.size + 1, 1, none⟩ (.int .i64 hd') (.inl (by simp <;> omega))).setOther ⟨w.heap.size + 1, 2, none⟩ (.int .i64 tl) (.inl (by simp <;> omega))
      have B5 := ((B3.setCell (p := ⟨w.heap.size + 1, 0, none⟩) (by simp) (.slice A2 d.length c2)).setCell (p := ⟨w.heap.size + 1, 1, none⟩) (by simp) (.int .i64 hd')).setCell (p := ⟨w.heap.size + 1, 2, none⟩) (by simp) (.int .i64 tl)
      have z5 : W.heap.size ≤ (((W.setCell ⟨w.heap.size + 1, 0, none⟩ (.slice A2 d.length c2)).setCell ⟨w.heap.size + 1, 1, none⟩ (.int .i64 hd')).setCell ⟨w.heap.size + 1, 2, none⟩ (.int .i64 tl)).heap.size := by simp
      have HK := Lib.hid (And.intro (cells3 x25) (And.intro (cells3 x05) hx5))
      have HE := Lib.hid (And.intro x15 (And.intro p5 (And.intro B5 z5)))
      clear x25 x05 x15 hx5 p5 B5 z5
      go_region_held3 (fun w' => w'.cell? ⟨w.heap.size, 0, none⟩ = some (.slice (some ⟨b, o, none⟩) d.length c) ∧ w'.cell? ⟨w.heap.size, 1, none⟩ = some (.int .i64 (t : Int)) ∧ w'.cell? ⟨b, o + t, none⟩ = some (.int .i64 x) ∧ w'.cell? ⟨w2.heap.size, 0, none⟩ = some (.slice A2 d.length c2) ∧ w'.cell? ⟨w2.heap.size, 1, none⟩ = some (.int .i64 hd') ∧ w'.cell? ⟨w2.heap.size, 2, none⟩ = some (.int .i64 tl)) (first | (refine ⟨?_, ?_, ?_, ?_, ?_, ?_⟩ <;> assumption) | exact ⟨HK.out.2.1.1, HK.out.2.1.2.1, HK.out.2.2, HK.out.1.1, HK.out.1.2.1, HK.out.1.2.2⟩ | go_keep) (fail)
      generalize (((W.setCell ⟨w.heap.size + 1, 0, none⟩ (.slice A2 d.length c2)).setCell ⟨w.heap.size + 1, 1, none⟩ (.int .i64 hd')).setCell ⟨w.heap.size + 1, 2, none⟩ (.int .i64 tl)) = W5 at *
      obtain ⟨x15, p5, B5, z5⟩ := HE.out
      obtain ⟨k0, k1, k2⟩ := cells3 x15
      go_wp2_with fail
      refine bodyPost_ret (v := .tuple #[.agg #[.slice A2 d.length c2, .int .i64 hd', .int .i64 tl], .int .i64 x, .bool true]) (by simp [results, Try.results6, go_sem, k0, k1, k2]) rfl ?_
      rw [HY.out, HX.out.1, HX.out.2.1]
      simp only [rcut, HD.out]
      exact RetF.of (f := popV hd' tl x true) (p5.drewN 1) (by omega) (by show w2.heap.size ≤ W5.heap.size; omega) (below_drewN B5 1)
set_option maxHeartbeats 400000 in
theorem implRingPop_any (A : Option Addr) (n c B : Nat) (d : List Int) (hd tl : Int) (w : World) (h : Sees w B 1 A n c (ints d)) (hB : B ≤ w.heap.size) :
    Calls Try.prog 5 #[.agg #[.slice A n c, .int .i64 hd, .int .i64 tl]] w (RetF w 3 1 (rpop ⟨d, hd, tl⟩).slots.length (ints (rpop ⟨d, hd, tl⟩).slots) (popV (rpop ⟨d, hd, tl⟩).head (rpop ⟨d, hd, tl⟩).tail (rtop ⟨d, hd, tl⟩) (rpopped ⟨d, hd, tl⟩))) := by
  obtain rfl := h.int
  have hc1 := h.cap
  have hc2 := h.big
  have b0 : Below w.heap.size w ((w.alloc (.cells #[.slice A d.length c, .int .i64 hd, .int .i64 tl] 25)).alloc (.cells #[.slice none 0 0, .int .i64 0, .int .i64 0] 25)) := (below_new _ _).alloc (Nat.le_of_lt (by simp)) _
  have h0 := h.below b0 hB
  cases hv : rval ⟨d, hd, tl⟩ with
  | false =>
    have HP := Lib.hid (rpop_no ⟨d, hd, tl⟩ hv)
    go_enter Try.func5, Try.ntmps5
    go_wp2_with fail
    refine (implRingValid_any _ _ _ _ _ _ _ _ h0).mono ?_
    rw [hv]
    rintro e w1 ⟨rfl, b1⟩
    obtain ⟨r0, r1, z1, B1⟩ := rows2 b1
    clear h0 b0
    obtain ⟨n0, n1, n2⟩ := cells3 r1
    obtain ⟨f0, f1, f2⟩ := frz3 r1
    go_wp2_with fail
    refine bodyPost_ret (v := .tuple #[.agg #[.slice none 0 0, .int .i64 0, .int .i64 0], .int .i64 0, .bool false]) (by simp [results, Try.results5, go_sem, n0, n1, n2]) rfl ?_
    rw [HP.out.1, HP.out.2.1, HP.out.2.2]
    exact RetF.of (f := popV 0 0 0 false) (Own.nil _ w.heap.size w.heap.size _ _) (Nat.le_refl _) (by simp <;> omega) (((B1.setCell (by simp) _).setCell (by simp) _).setCell (by simp) _)
  | true =>
    have hv' := (rval_iff _).1 hv
    simp only at hv'
    have HF := Lib.hid (fun hf => rpop_none ⟨d, hd, tl⟩ hv hf)
    have HQ := Lib.hid (fun hf => rpop_cut ⟨d, hd, tl⟩ hv hf)
    go_enter Try.func5, Try.ntmps5
    go_wp2_with fail
    refine (implRingValid_any _ _ _ _ _ _ _ _ h0).mono ?_
    rw [hv]
    rintro e w1 ⟨rfl, b1⟩
    obtain ⟨r0, r1, z1, B1⟩ := rows2 b1
    clear h0 b0 b1
    have h1 := h.below B1 hB
    obtain ⟨m0, m1, m2⟩ := cells3 r0
    go_wp2_with fail
    refine (cloneRing_any _ _ _ _ _ _ _ _ h1 (by omega) (by omega)).mono ?_
    rintro e w2 ⟨A2, c2, rfl, o2, b2⟩
    simp only [ringV]
    clear m0 m1 m2
    have r0' := rowKeep r0 b2
    have r1' := rowKeep r1 b2
    have B2 := below_later B1 b2 (Nat.le_refl _)
    have s2 := b2.size
    clear r0 r1 b2 h1
    have g2 := below_new w2 (.cells #[.slice A2 d.length c2, .int .i64 hd, .int .i64 tl] 25)
    obtain ⟨m0, m1, m2⟩ := cells3 (rowKeep r0' g2)
    have zb : rnone ⟨d, hd, tl⟩ = (hd == tl) := by unfold rnone; rw [Bool.eq_iff_iff]; simp
    cases hn : rnone ⟨d, hd, tl⟩ with
    | true =>
      have HX := Lib.hid (HF.out hn)
      rw [hn] at zb
      have hb : (hd == tl) = true := zb.symm
      clear zb hn
      have x2 : (w2.alloc (.cells #[.slice A2 d.length c2, .int .i64 hd, .int .i64 tl] 25)).heap[w2.heap.size]? = some (.cells #[.slice A2 d.length c2, .int .i64 hd, .int .i64 tl] 25 (0, 0)) := heap_alloc_new w2 _
      have x1 := rowKeep r1' g2
      have p2 := o2.below g2
      have B3 := below_later B2 g2 (Nat.le_refl _)
      have zz : w2.heap.size < (w2.alloc (.cells #[.slice A2 d.length c2, .int .i64 hd, .int .i64 tl] 25)).heap.size := by rw [World.size_alloc]; omega
      obtain ⟨n0, n1, n2⟩ := cells3 x1
      obtain ⟨nf0, nf1, nf2⟩ := frz3 x1
      obtain ⟨q0, q1, q2⟩ := cells3 x2
      obtain ⟨k0, k1, k2⟩ := cells3 (set32 (set31 (set30 x1 (.slice A2 d.length c2)) (.int .i64 hd)) (.int .i64 tl))
      clear g2 o2 HF HQ
      go_wp2_with fail
      generalize (w2.alloc (.cells #[.slice A2 d.length c2, .int .i64 hd, .int .i64 tl] 25)) = W at *
      refine bodyPost_ret (v := .tuple #[.agg #[.slice A2 d.length c2, .int .i64 hd, .int .i64 tl], .int .i64 0, .bool false]) (by simp [results, Try.results5, go_sem, k0, k1, k2]) rfl ?_
      rw [HX.out.1, HX.out.2.1, HX.out.2.2]
      exact RetF.of (f := popV hd tl 0 false) (((p2.setOther ⟨w.heap.size + 1, 0, none⟩ _ (.inl (by simp <;> omega))).setOther ⟨w.heap.size + 1, 1, none⟩ _ (.inl (by simp <;> omega))).setOther ⟨w.heap.size + 1, 2, none⟩ _ (.inl (by simp <;> omega))) (by omega) (by simp <;> omega) (((B3.setCell (by simp) _).setCell (by simp) _).setCell (by simp) _)
    | false =>
      have HX := Lib.hid (HQ.out hn)
      rw [hn] at zb
      have hb : (hd == tl) = false := zb.symm
      clear zb hn g2
      obtain ⟨t, rfl⟩ := Int.eq_ofNat_of_zero_le hv'.2.1.1
      have hlt : t < d.length := by omega
      have hz : ((d.length : Int) == 0) = false := beq_eq_false_iff_ne.2 (by omega)
      have hgd : d.getD t 0 = d[t] := by simp [hlt]
      obtain ⟨b, o, rfl, hbB, hcell⟩ := h.int_at (by omega)
      have hcl := hcell t hlt
      rw [← hgd] at hcl
      clear hcell hgd
      have HY : Hid (rtop ⟨d, (t : Int), tl⟩ = d.getD t 0) := Lib.hid (by rw [HX.out.2.2]; rfl)
      generalize d.getD t 0 = x at *
      have g3 := below_new w2 (.cells #[.slice A2 d.length c2, .int .i64 (((t : Int) + 1) % (d.length : Int)), .int .i64 tl] 25)
      have x2 : (w2.alloc (.cells #[.slice A2 d.length c2, .int .i64 (((t : Int) + 1) % (d.length : Int)), .int .i64 tl] 25)).heap[w2.heap.size]? = some (.cells #[.slice A2 d.length c2, .int .i64 (((t : Int) + 1) % (d.length : Int)), .int .i64 tl] 25 (0, 0)) := heap_alloc_new w2 _
      have x0 := rowKeep r0' g3
      have x1 := rowKeep r1' g3
      have p2 := o2.below g3
      have B3 := below_later B2 g3 (Nat.le_refl _)
      have hx : (w2.alloc (.cells #[.slice A2 d.length c2, .int .i64 (((t : Int) + 1) % (d.length : Int)), .int .i64 tl] 25)).cell? ⟨b, o + t, none⟩ = some (.int .i64 x) := (B3.cell (p := ⟨b, o + t, none⟩) (by show b < _; omega)).trans hcl
      have zz : w2.heap.size < (w2.alloc (.cells #[.slice A2 d.length c2, .int .i64 (((t : Int) + 1) % (d.length : Int)), .int .i64 tl] 25)).heap.size := by rw [World.size_alloc]; omega
      have i1 : (0 : Int) ≤ (t : Int) := by omega
      have i2 : (t : Int) < (d.length : Int) := by omega
      go_upto_region 7 with fail
      clear m0 m1 m2 hcl g3 o2 HF HQ
      generalize (w2.alloc (.cells #[.slice A2 d.length c2, .int .i64 (((t : Int) + 1) % (d.length : Int)), .int .i64 tl] 25)) = W at *
      obtain ⟨m0, m1, m2⟩ := cells3 x0
      obtain ⟨n0, n1, n2⟩ := cells3 x1
      obtain ⟨nf0, nf1, nf2⟩ := frz3 x1
      obtain ⟨q0, q1, q2⟩ := cells3 x2
      have HD : Hid (((t : Int) + 1) % (d.length : Int) = ((t : Int) + 1) % (d.length : Int)) := Lib.hid rfl
      generalize hhd : (((t : Int) + 1) % (d.length : Int)) = hd' at x2 q0 q1 q2 ⊢
      replace HD := Lib.hid hhd
      clear hhd
      have hbne : b ≠ w.heap.size + 1 := by omega
      have x25 := rowSet (rowSet (rowSet x2 ⟨w.heap.size + 1, 0, none⟩ (.slice A2 d.length c2) (by simp <;> omega)) ⟨w.heap.size + 1, 1, none⟩ (.int .i64 hd') (by simp <;> omega)) ⟨w.heap.size + 1, 2, none⟩ (.int .i64 tl) (by simp <;> omega)
      have x05 := rowSet (rowSet (rowSet x0 ⟨w.heap.size + 1, 0, none⟩ (.slice A2 d.length c2) (by simp)) ⟨w.heap.size + 1, 1, none⟩ (.int .i64 hd') (by simp)) ⟨w.heap.size + 1, 2, none⟩ (.int .i64 tl) (by simp)
      have x15 := set32 (set31 (set30 x1 (.slice A2 d.length c2)) (.int .i64 hd')) (.int .i64 tl)
      have hx5 := (World.cell?_setCell_other (((W.setCell ⟨w.heap.size + 1, 0, none⟩ (.slice A2 d.length c2)).setCell ⟨w.heap.size + 1, 1, none⟩ (.int .i64 hd'))) ⟨w.heap.size + 1, 2, none⟩ ⟨b, o + t, none⟩ (.int .i64 tl) (by simp <;> omega)).trans ((World.cell?_setCell_other (W.setCell ⟨w.heap.size + 1, 0, none⟩ (.slice A2 d.length c2)) ⟨w.heap.size + 1, 1, none⟩ ⟨b, o + t, none⟩ (.int .i64 hd') (by simp <;> omega)).trans ((World.cell?_setCell_other W ⟨w.heap.size + 1, 0, none⟩ ⟨b, o + t, none⟩ (.slice A2 d.length c2) (by simp <;> omega)).trans hx))
      have p5 := ((p2.setOther ⟨w.heap.size + 1, 0, none⟩ (.slice A2 d.length c2) (.inl (by simp <;> omega))).setOther ⟨w.heap.size + 1, 1, none⟩ (.int .i64 hd') (.inl (by simp <;> omega))).setOther ⟨w.heap.size + 1, 2, none⟩ (.int .i64 tl) (.inl (by simp <;> omega))
      have B5 := ((B3.setCell (p := ⟨w.heap.size + 1, 0, none⟩) (by simp) (.slice A2 d.length c2)).setCell (p := ⟨w.heap.size + 1, 1, none⟩) (by simp) (.int .i64 hd')).setCell (p := ⟨w.heap.size + 1, 2, none⟩) (by simp) (.int .i64 tl)
      have z5 : W.heap.size ≤ (((W.setCell ⟨w.heap.size + 1, 0, none⟩ (.slice A2 d.length c2)).setCell ⟨w.heap.size + 1, 1, none⟩ (.int .i64 hd')).setCell ⟨w.heap.size + 1, 2, none⟩ (.int .i64 tl)).heap.size := by simp
      have HK := Lib.hid (And.intro (cells3 x25) (And.intro (cells3 x05) hx5))
      have HE := Lib.hid (And.intro x15 (And.intro p5 (And.intro B5 z5)))
      clear x25 x05 x15 hx5 p5 B5 z5
      go_region_held3 (fun w' => w'.cell? ⟨w.heap.size, 0, none⟩ = some (.slice (some ⟨b, o, none⟩) d.length c) ∧ w'.cell? ⟨w.heap.size, 1, none⟩ = some (.int .i64 (t : Int)) ∧ w'.cell? ⟨b, o + t, none⟩ = some (.int .i64 x) ∧ w'.cell? ⟨w2.heap.size, 0, none⟩ = some (.slice A2 d.length c2) ∧ w'.cell? ⟨w2.heap.size, 1, none⟩ = some (.int .i64 hd') ∧ w'.cell? ⟨w2.heap.size, 2, none⟩ = some (.int .i64 tl)) (first | (refine ⟨?_, ?_, ?_, ?_, ?_, ?_⟩ <;> assumption) | exact ⟨HK.out.2.1.1, HK.out.2.1.2.1, HK.out.2.2, HK.out.1.1, HK.out.1.2.1, HK.out.1.2.2⟩ | go_keep) (fail)
      generalize (((W.setCell ⟨w.heap.size + 1, 0, none⟩ (.slice A2 d.length c2)).setCell ⟨w.heap.size + 1, 1, none⟩ (.int .i64 hd')).setCell ⟨w.heap.size + 1, 2, none⟩ (.int .i64 tl)) = W5 at *
      obtain ⟨x15, p5, B5, z5⟩ := HE.out
      obtain ⟨k0, k1, k2⟩ := cells3 x15
      go_wp2_with fail
      refine bodyPost_ret (v := .tuple #[.agg #[.slice A2 d.length c2, .int .i64 hd', .int .i64 tl], .int .i64 x, .bool true]) (by simp [results, Try.results5, go_sem, k0, k1, k2]) rfl ?_
      rw [HY.out, HX.out.1, HX.out.2.1]
      simp only [rcut, HD.out]
      exact RetF.of (f := popV hd' tl x true) (p5.drewN 1) (by omega) (by show w2.heap.size ≤ W5.heap.size; omega) (below_drewN B5 1)
end Go.Proofs.Ytcbdphflockopaa
