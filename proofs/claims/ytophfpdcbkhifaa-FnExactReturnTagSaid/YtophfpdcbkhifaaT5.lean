/-
  Walks: ReturnTag of the program and of the reference.
-/
import Derived.Test.YtophfpdcbkhifaaT4
namespace Go.Proofs.Ytophfpdcbkhifaa
open Go.RowKit
def retV (d : List Bool) (g : Int) (v : Value) : Value := .tuple #[.agg #[v], .bool (rok d g)]
theorem specReturnTag_any (A : Option Addr) (n c B : Nat) (d : List Bool) (q : Int) (w : World) (h : Sees w B 1 A n c (bools d)) (hB : B ≤ w.heap.size) :
    Calls Try.prog 23 #[.agg #[.slice A n c], .int .i64 q] w (RetF w 4 1 (tret d q).length (bools (tret d q)) (retV d q)) := by
  obtain rfl := h.bool
  have hc1 := h.cap
  have hc2 := h.big
  by_cases h16 : 16 < d.length
  · have h1 : tret d q = [] := by unfold tret; rw [if_neg (by omega)]
    have h2 : retV d q = fun v => .tuple #[.agg #[v], .bool false] := by
      have : rok d q = false := by unfold rok; rw [decide_eq_false (by omega)]; rfl
      unfold retV; rw [this]
    rw [h1, h2]
    clear h1 h2
    go_enter Try.func23, Try.ntmps23
    go_wp2_with fail
    refine bodyPost_ret (v := .tuple #[.agg #[.slice none 0 0], .bool false]) (by simp [results, Try.results23, go_sem]) rfl ?_
    exact RetF.of (f := fun v => .tuple #[.agg #[v], .bool false]) (Own.nil _ w.heap.size w.heap.size _ _) (Nat.le_refl _) (by simp <;> omega) ((below_new _ _).alloc (Nat.le_of_lt (by simp)) _)
  · obtain ⟨i0, hi0, hz0, hz1, hz2⟩ := info_parts bool_info
    have b0 : Below w.heap.size w ((w.alloc (.cells #[.slice A d.length c] 24)).alloc (.cells #[.slice none 0 0] 24)) := (below_new _ _).alloc (Nat.le_of_lt (by simp)) _
    have b1 : Below w.heap.size w (((w.alloc (.cells #[.slice A d.length c] 24)).alloc (.cells #[.slice none 0 0] 24)).alloc (.cells #[] 4)) := b0.alloc b0.size _
    have h1 := h.below b1 hB
    have hE := newEmpty ((w.alloc (.cells #[.slice A d.length c] 24)).alloc (.cells #[.slice none 0 0] 24)) 4 1
    rw [World.size_alloc, World.size_alloc] at hE
    obtain ⟨q0, q1, qz, qB⟩ := rows2 (below_new ((w.alloc (.cells #[.slice A d.length c] 24)).alloc (.cells #[.slice none 0 0] 24)) (.cells #[] 4))
    go_enter Try.func23, Try.ntmps23
    go_wp2_with (at_builtin; refine wpList_app _ rfl (.tmp 12) (.tmp 14) _ rfl 4 i0 (.bool false) 1 1 Try.underlying22 hi0 hz0 hz1 hz2 rfl (by decide) _ _ _ 0 0 [] rfl hE _ _ _ _ _ rfl h1 (bools_one _) (by omega) (by omega) (by simp) ?_; intro A2 c2 w2 o2 f2; simp only [Nat.zero_add, List.nil_append] at o2)
    have r0 := rowFr q0 f2 (.inl (by omega))
    have r1 := rowFr q1 f2 (.inl (by omega))
    have z2 : w.heap.size + 1 + 1 + 1 ≤ w2.heap.size := by have := f2.size_alloc; have := f2.size; simp only [World.size_alloc] at this; omega
    have B2 := f2.below qB (by omega) (Nat.le_refl _)
    clear q0 q1 qz qB h1 b1 b0 hE f2
    have x2 : (w2.alloc (.cells #[.slice A2 d.length c2] 24)).heap[w2.heap.size]? = some (.cells #[.slice A2 d.length c2] 24 (0, 0)) := heap_alloc_new w2 _
    have x0 := rowKeep r0 (below_new w2 (.cells #[.slice A2 d.length c2] 24))
    have x1 := rowKeep r1 (below_new w2 (.cells #[.slice A2 d.length c2] 24))
    have p2 := o2.below (below_new w2 (.cells #[.slice A2 d.length c2] 24))
    have B3 := B2.alloc (by omega) (.cells #[.slice A2 d.length c2] 24)
    have zz : w2.heap.size ≤ (w2.alloc (.cells #[.slice A2 d.length c2] 24)).heap.size := by rw [World.size_alloc]; omega
    have m0 := cells1 x0
    have m1 := cells1 x1
    have m2 := cells1 x2
    have n1 := frzRow x1 0
    have HK := Lib.hid (show d.length ≤ 16 by omega)
    have HN : ¬ rok d q = true → tret d q = d ∧ retV d q = fun v => .tuple #[.agg #[v], .bool false] := fun hr => by
      rw [Bool.not_eq_true] at hr
      refine ⟨by unfold tret; rw [if_pos HK.out, if_neg (by simp [hr])], by unfold retV; rw [hr]⟩
    go_wp2_with fail
    generalize (w2.alloc (.cells #[.slice A2 d.length c2] 24)) = W at *
    refine (l1In_any _ _ _ _).mono ?_
    cases hw : win q 0 ((d.length : Int) - 1) with
    | false =>
      have H := Lib.hid (HN (by unfold rok; rw [hw]; simp))
      rintro e w' ⟨rfl, rfl⟩
      clear HN
      have e1 := cells1 (set1 x1 (.slice A2 d.length c2))
      go_wp2_with fail
      refine bodyPost_ret (v := .tuple #[.agg #[.slice A2 d.length c2], .bool false]) (by simp [results, Try.results23, go_sem, e1]) rfl ?_
      rw [H.out.1, H.out.2]
      exact RetF.of (f := fun v => .tuple #[.agg #[v], .bool false]) (p2.setOther ⟨w.heap.size + 1, 0, none⟩ _ (.inl (by simp))) (by omega) (by simp <;> omega) (B3.setCell (by simp) _)
    | true =>
      have hq := (win_iff _ _ _).1 hw
      obtain ⟨k, rfl⟩ := Int.eq_ofNat_of_zero_le hq.1
      have hlt : k < d.length := by omega
      have hro : rok d (k : Int) = d[k] := by unfold rok; rw [hw, decide_eq_true HK.out]; simp [hlt]
      obtain ⟨g, rfl, hg1, hg2, hg3⟩ := p2.head (by omega)
      have hx := p2.cell rfl k _ (bools_get d k hlt)
      have hf := p2.frozen rfl k
      cases hv : d[k] with
      | false =>
        have H := Lib.hid (HN (by rw [hro, hv]; simp))
        rintro e w' ⟨rfl, rfl⟩
        rw [hv] at hx
        clear HN hro hv
        have e1 := cells1 (set1 x1 (.slice (some ⟨g, 0, none⟩) d.length c2))
        go_wp2_with fail
        refine bodyPost_ret (v := .tuple #[.agg #[.slice (some ⟨g, 0, none⟩) d.length c2], .bool false]) (by simp [results, Try.results23, go_sem, e1]) rfl ?_
        rw [H.out.1, H.out.2]
        exact RetF.of (f := fun v => .tuple #[.agg #[v], .bool false]) (p2.setOther ⟨w.heap.size + 1, 0, none⟩ _ (.inl (by simp))) (by omega) (by simp <;> omega) (B3.setCell (by simp) _)
      | true =>
        have H1 : tret d (k : Int) = d.set k false := by unfold tret; rw [if_pos HK.out, if_pos (by rw [hro, hv]), Int.toNat_natCast]
        have H2 : retV d (k : Int) = fun v => .tuple #[.agg #[v], .bool true] := by unfold retV; rw [hro, hv]
        have H := Lib.hid (And.intro H1 H2)
        rintro e w' ⟨rfl, rfl⟩
        rw [hv] at hx
        clear HN hro hv H1 H2
        have p3 := p2.set rfl k (.bool false)
        rw [bools_set] at p3
        have y1 := rowSet x1 ⟨g, k, none⟩ (.bool false) (by show _ ≠ g; omega)
        have y2 := cells1 (rowSet x2 ⟨g, k, none⟩ (.bool false) (by show _ ≠ g; omega))
        have l1 := cells1 y1
        have l2 := frzRow y1 0
        have e1 := cells1 (set1 y1 (.slice (some ⟨g, 0, none⟩) d.length c2))
        go_wp2_with fail
        refine bodyPost_ret (v := .tuple #[.agg #[.slice (some ⟨g, 0, none⟩) d.length c2], .bool true]) (by simp [results, Try.results23, go_sem, e1]) rfl ?_
        rw [H.out.1, H.out.2, List.length_set]
        exact RetF.of (f := fun v => .tuple #[.agg #[v], .bool true]) (p3.setOther ⟨w.heap.size + 1, 0, none⟩ _ (.inl (by simp))) (by omega) (by simp <;> omega) ((B3.setCell (by show _ ≤ g; omega) _).setCell (by simp) _)
theorem implReturnTag_any (A : Option Addr) (n c B : Nat) (d : List Bool) (q : Int) (w : World) (h : Sees w B 1 A n c (bools d)) (hB : B ≤ w.heap.size) :
    Calls Try.prog 24 #[.agg #[.slice A n c], .int .i64 q] w (RetF w 4 1 (tret d q).length (bools (tret d q)) (retV d q)) := by
  obtain rfl := h.bool
  have hc1 := h.cap
  have hc2 := h.big
  by_cases h16 : 16 < d.length
  · have h1 : tret d q = [] := by unfold tret; rw [if_neg (by omega)]
    have h2 : retV d q = fun v => .tuple #[.agg #[v], .bool false] := by
      have : rok d q = false := by unfold rok; rw [decide_eq_false (by omega)]; rfl
      unfold retV; rw [this]
    rw [h1, h2]
    clear h1 h2
    go_enter Try.func24, Try.ntmps24
    go_wp2_with fail
    refine bodyPost_ret (v := .tuple #[.agg #[.slice none 0 0], .bool false]) (by simp [results, Try.results24, go_sem]) rfl ?_
    exact RetF.of (f := fun v => .tuple #[.agg #[v], .bool false]) (Own.nil _ w.heap.size w.heap.size _ _) (Nat.le_refl _) (by simp <;> omega) ((below_new _ _).alloc (Nat.le_of_lt (by simp)) _)
  · have b0 : Below w.heap.size w ((w.alloc (.cells #[.slice A d.length c] 24)).alloc (.cells #[.slice none 0 0] 24)) := (below_new _ _).alloc (Nat.le_of_lt (by simp)) _
    have h1 := h.below b0 hB
    go_enter Try.func24, Try.ntmps24
    go_wp2_with fail
    refine (cloneB_any _ _ _ _ _ _ h1 (bools_one _) (by simp; omega) (by omega)).mono ?_
    rintro e w2 ⟨A2, c2, rfl, o2, b2⟩
    obtain ⟨r0, r1, z2, B2⟩ := rows2 b2
    simp only [World.size_alloc] at o2
    clear h1 b2 b0
    have x2 : (w2.alloc (.cells #[.slice A2 d.length c2] 24)).heap[w2.heap.size]? = some (.cells #[.slice A2 d.length c2] 24 (0, 0)) := heap_alloc_new w2 _
    have x0 := rowKeep r0 (below_new w2 (.cells #[.slice A2 d.length c2] 24))
    have x1 := rowKeep r1 (below_new w2 (.cells #[.slice A2 d.length c2] 24))
    have p2 := o2.below (below_new w2 (.cells #[.slice A2 d.length c2] 24))
    have B3 := B2.alloc (by omega) (.cells #[.slice A2 d.length c2] 24)
    have zz : w2.heap.size ≤ (w2.alloc (.cells #[.slice A2 d.length c2] 24)).heap.size := by rw [World.size_alloc]; omega
    have m0 := cells1 x0
    have m1 := cells1 x1
    have m2 := cells1 x2
    have n1 := frzRow x1 0
    have h3 := h.below B3 hB
    have HK := Lib.hid (show d.length ≤ 16 by omega)
    have HN : ¬ rok d q = true → tret d q = d ∧ retV d q = fun v => .tuple #[.agg #[v], .bool false] := fun hr => by
      rw [Bool.not_eq_true] at hr
      refine ⟨by unfold tret; rw [if_pos HK.out, if_neg (by simp [hr])], by unfold retV; rw [hr]⟩
    go_wp2_with fail
    generalize (w2.alloc (.cells #[.slice A2 d.length c2] 24)) = W at *
    refine (within_any _ _ _ _).mono ?_
    cases hw : win q 0 ((d.length : Int) - 1) with
    | false =>
      have H := Lib.hid (HN (by unfold rok; rw [hw]; simp))
      rintro e w' ⟨rfl, rfl⟩
      clear HN
      have e1 := cells1 (set1 x1 (.slice A2 d.length c2))
      go_wp2_with fail
      refine bodyPost_ret (v := .tuple #[.agg #[.slice A2 d.length c2], .bool false]) (by simp [results, Try.results24, go_sem, e1]) rfl ?_
      rw [H.out.1, H.out.2]
      exact RetF.of (f := fun v => .tuple #[.agg #[v], .bool false]) (p2.setOther ⟨w.heap.size + 1, 0, none⟩ _ (.inl (by simp))) (by omega) (by simp <;> omega) (B3.setCell (by simp) _)
    | true =>
      have hq := (win_iff _ _ _).1 hw
      obtain ⟨k, rfl⟩ := Int.eq_ofNat_of_zero_le hq.1
      have hlt : k < d.length := by omega
      have hro : rok d (k : Int) = d[k] := by unfold rok; rw [hw, decide_eq_true HK.out]; simp [hlt]
      obtain ⟨g, rfl, hg1, hg2, hg3⟩ := p2.head (by omega)
      have hx := p2.cell rfl k _ (bools_get d k hlt)
      have hf := p2.frozen rfl k
      obtain ⟨gi, oi, rfl, _, hci⟩ := h3.bool_at (by omega)
      have hy := hci k hlt
      clear hci
      cases hv : d[k] with
      | false =>
        have H := Lib.hid (HN (by rw [hro, hv]; simp))
        rintro e w' ⟨rfl, rfl⟩
        rw [hv] at hx
        rw [hv] at hy
        clear HN hro hv
        have e1 := cells1 (set1 x1 (.slice (some ⟨g, 0, none⟩) d.length c2))
        go_wp2_with fail
        refine bodyPost_ret (v := .tuple #[.agg #[.slice (some ⟨g, 0, none⟩) d.length c2], .bool false]) (by simp [results, Try.results24, go_sem, e1]) rfl ?_
        rw [H.out.1, H.out.2]
        exact RetF.of (f := fun v => .tuple #[.agg #[v], .bool false]) (p2.setOther ⟨w.heap.size + 1, 0, none⟩ _ (.inl (by simp))) (by omega) (by simp <;> omega) (B3.setCell (by simp) _)
      | true =>
        have H1 : tret d (k : Int) = d.set k false := by unfold tret; rw [if_pos HK.out, if_pos (by rw [hro, hv]), Int.toNat_natCast]
        have H2 : retV d (k : Int) = fun v => .tuple #[.agg #[v], .bool true] := by unfold retV; rw [hro, hv]
        have H := Lib.hid (And.intro H1 H2)
        rintro e w' ⟨rfl, rfl⟩
        rw [hv] at hx
        rw [hv] at hy
        clear HN hro hv H1 H2
        have p3 := p2.set rfl k (.bool false)
        rw [bools_set] at p3
        have y1 := rowSet x1 ⟨g, k, none⟩ (.bool false) (by show _ ≠ g; omega)
        have y2 := cells1 (rowSet x2 ⟨g, k, none⟩ (.bool false) (by show _ ≠ g; omega))
        have l1 := cells1 y1
        have l2 := frzRow y1 0
        have e1 := cells1 (set1 y1 (.slice (some ⟨g, 0, none⟩) d.length c2))
        go_wp2_with fail
        refine bodyPost_ret (v := .tuple #[.agg #[.slice (some ⟨g, 0, none⟩) d.length c2], .bool true]) (by simp [results, Try.results24, go_sem, e1]) rfl ?_
        rw [H.out.1, H.out.2, List.length_set]
        exact RetF.of (f := fun v => .tuple #[.agg #[v], .bool true]) (p3.setOther ⟨w.heap.size + 1, 0, none⟩ _ (.inl (by simp))) (by omega) (by simp <;> omega) ((B3.setCell (by show _ ≤ g; omega) _).setCell (by simp) _)
end Go.Proofs.Ytophfpdcbkhifaa
