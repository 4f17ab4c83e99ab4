/-
  Walks: TakeTag of the program and of the reference.
-/
import Derived.Test.YtophfpdcbkhifaaT3
namespace Go.Proofs.Ytophfpdcbkhifaa
open Go.RowKit
/-- what slices.Index gives for the first tag that is not in use -/
def tidx (d : List Bool) : Int := if tfree d < d.length then (tfree d : Int) else -1
theorem index_any (A : Option Addr) (n c B : Nat) (d : List Bool) (w : World) (h : Sees w B 1 A n c (bools d)) :
    Calls Try.prog 38 #[.slice A n c, .bool false] w fun e w' => e = .returned (.int .i64 (tidx d)) ∧ w = w' := by
  have hn := h.bool
  have hc1 := h.cap
  have hc2 := h.big
  have HN : Hid (d.length = n) := Lib.hid hn
  clear hn
  go_enter Try.func38, Try.ntmps38
  go_wp2_with fail
  go_loop [8] (fun i => ∃ (k : Nat), k ≤ n ∧ i = .int .i64 k ∧ Hid (d.take k = List.replicate k true)) (fun i => n - (intOf i).toNat)
  case atStart => exact ⟨0, Nat.zero_le _, rfl, rfl⟩
  case round =>
    obtain ⟨k, hk, rfl, hrel⟩ := hrel
    by_cases hlt : k < n
    · have hkd : k < d.length := by rw [HN.out]; exact hlt
      obtain ⟨b, o, rfl, _, hcell⟩ := h.bool_at (by omega)
      have hx := hcell k hkd
      clear hcell
      cases hv : d[k] with
      | true =>
        have H := Lib.hid (rep_step d k hkd hrel.out hv)
        rw [hv] at hx
        clear hv
        go_wp2_with fail
        go_round
        case rel => exact ⟨k + 1, by omega, by go_num, H⟩
        case measure => simp [intOf]; omega
      | false =>
        have H := Lib.hid (tfree_at d k hkd hrel.out hv)
        rw [hv] at hx
        clear hv
        go_wp2_with fail
        go_ret
        exact ⟨ret_int (by unfold tidx; rw [H.out, if_pos hkd]), rfl⟩
    · have H := Lib.hid (tfree_all d k (by rw [HN.out]; omega) hrel.out)
      go_wp2_with fail
      go_ret
      exact ⟨ret_int (by unfold tidx; rw [H.out, if_neg (by omega)]), rfl⟩
def takeV (d : List Bool) (v : Value) : Value := .tuple #[.agg #[v], .int .i64 (ttag d), .bool (tok d)]
theorem specTakeTag_any (A : Option Addr) (n c B : Nat) (d : List Bool) (w : World) (h : Sees w B 1 A n c (bools d)) (hB : B ≤ w.heap.size) :
    Calls Try.prog 25 #[.agg #[.slice A n c]] w (RetF w 4 1 (ttake d).length (bools (ttake d)) (takeV d)) := by
  obtain rfl := h.bool
  have hc1 := h.cap
  have hc2 := h.big
  by_cases h16 : 16 < d.length
  · have h1 : ttake d = [] := by unfold ttake; rw [if_neg (by omega)]
    have h2 : takeV d = fun v => .tuple #[.agg #[v], .int .i64 (-1), .bool false] := by
      have : tok d = false := by unfold tok; rw [decide_eq_false (by omega)]; rfl
      unfold takeV ttag; rw [this]; rfl
    rw [h1, h2]
    clear h1 h2
    go_enter Try.func25, Try.ntmps25
    go_wp2_with fail
    refine bodyPost_ret (v := .tuple #[.agg #[.slice none 0 0], .int .i64 (-1), .bool false]) (by simp [results, Try.results25, go_sem]) rfl ?_
    exact RetF.of (f := fun v => .tuple #[.agg #[v], .int .i64 (-1), .bool false]) (Own.nil _ w.heap.size w.heap.size _ _) (Nat.le_refl _) (by simp <;> omega) ((below_new _ _).alloc (Nat.le_of_lt (by simp)) _)
  · obtain ⟨i0, hi0, hz0, hz1, hz2⟩ := info_parts bool_info
    have b0 : Below w.heap.size w ((w.alloc (.cells #[.slice A d.length c] 24)).alloc (.cells #[.slice none 0 0] 24)) := (below_new _ _).alloc (Nat.le_of_lt (by simp)) _
    have b1 : Below w.heap.size w (((w.alloc (.cells #[.slice A d.length c] 24)).alloc (.cells #[.slice none 0 0] 24)).alloc (.cells #[] 4)) := b0.alloc b0.size _
    have h1 := h.below b1 hB
    have hE := newEmpty ((w.alloc (.cells #[.slice A d.length c] 24)).alloc (.cells #[.slice none 0 0] 24)) 4 1
    rw [World.size_alloc, World.size_alloc] at hE
    obtain ⟨q0, q1, qz, qB⟩ := rows2 (below_new ((w.alloc (.cells #[.slice A d.length c] 24)).alloc (.cells #[.slice none 0 0] 24)) (.cells #[] 4))
    go_enter Try.func25, Try.ntmps25
    go_wp2_with (at_builtin; refine wpList_app _ rfl (.tmp 12) (.tmp 14) _ rfl 4 i0 (.bool false) 1 1 Try.underlying22 hi0 hz0 hz1 hz2 rfl (by decide) _ _ _ 0 0 [] rfl hE _ _ _ _ _ rfl h1 (bools_one _) (by omega) (by omega) (by simp) ?_; intro A2 c2 w2 o2 f2; simp only [Nat.zero_add, List.nil_append] at o2)
    have r0 := rowFr q0 f2 (.inl (by omega))
    have r1 := rowFr q1 f2 (.inl (by omega))
    have z2 : w.heap.size + 1 + 1 + 1 ≤ w2.heap.size := by have := f2.size_alloc; have := f2.size; simp only [World.size_alloc] at this; omega
    have B2 := f2.below qB (by omega) (Nat.le_refl _)
    clear q0 q1 qz qB h1 b1 b0 hE f2
    have x2 : (w2.alloc (.cells #[.slice A2 d.length c2] 24)).heap[w2.heap.size]? = some (.cells #[.slice A2 d.length c2] 24 (0, 0)) := heap_alloc_new w2 _
    have x0 := rowKeep r0 (below_new w2 (.cells #[.slice A2 d.length c2] 24))
    have x1 := rowKeep r1 (below_new w2 (.cells #[.slice A2 d.length c2] 24))
    have p2 := o2.below (below_new w2 (.cells #[.slice A2 d.length c2] 24))
    have B3 := B2.alloc (by omega) (.cells #[.slice A2 d.length c2] 24)
    have zz : w2.heap.size ≤ (w2.alloc (.cells #[.slice A2 d.length c2] 24)).heap.size := by rw [World.size_alloc]; omega
    have m0 := cells1 x0
    have m1 := cells1 x1
    have m2 := cells1 x2
    have n1 := frzRow x1 0
    have HK := Lib.hid (show d.length ≤ 16 by omega)
    go_wp2_with fail
    generalize (w2.alloc (.cells #[.slice A2 d.length c2] 24)) = W at *
    go_loop [6] (fun i => ∃ (k : Nat), k ≤ d.length ∧ i = .int .i64 k ∧ Hid (d.take k = List.replicate k true)) (fun i => d.length - (intOf i).toNat)
    case atStart => exact ⟨0, Nat.zero_le _, rfl, rfl⟩
    case round =>
      obtain ⟨k, hk, rfl, hrel⟩ := hrel
      by_cases hlt : k < d.length
      · obtain ⟨g, rfl, hg1, hg2, hg3⟩ := p2.head (by omega)
        have hx := p2.cell rfl k _ (bools_get d k hlt)
        have hf := p2.frozen rfl k
        cases hv : d[k] with
        | true =>
          have H := Lib.hid (rep_step d k hlt hrel.out hv)
          rw [hv] at hx
          clear hv
          go_wp2_with fail
          go_round
          case rel => exact ⟨k + 1, by omega, by go_num, H⟩
          case measure => simp [intOf]; omega
        | false =>
          have hfree := tfree_at d k hlt hrel.out hv
          have H1 : ttake d = d.set k true := by unfold ttake; rw [if_pos HK.out, hfree]
          have H2 : takeV d = fun v => .tuple #[.agg #[v], .int .i64 (k : Int), .bool true] := by
            have : tok d = true := by unfold tok; rw [hfree, decide_eq_true HK.out, decide_eq_true hlt]; rfl
            unfold takeV ttag; rw [this, hfree]; rfl
          have H := Lib.hid (And.intro H1 H2)
          rw [hv] at hx
          clear hv hfree H1 H2
          have p3 := p2.set rfl k (.bool true)
          rw [bools_set] at p3
          have y1 := rowSet x1 ⟨g, k, none⟩ (.bool true) (by show _ ≠ g; omega)
          have y2 := cells1 (rowSet x2 ⟨g, k, none⟩ (.bool true) (by show _ ≠ g; omega))
          have l1 := cells1 y1
          have l2 := frzRow y1 0
          have e1 := cells1 (set1 y1 (.slice (some ⟨g, 0, none⟩) d.length c2))
          go_wp2_with fail
          refine bodyPost_ret (v := .tuple #[.agg #[.slice (some ⟨g, 0, none⟩) d.length c2], .int .i64 (k : Int), .bool true]) (by simp [results, Try.results25, go_sem, e1]) rfl ?_
          rw [H.out.1, H.out.2, List.length_set]
          exact RetF.of (f := fun v => .tuple #[.agg #[v], .int .i64 (k : Int), .bool true]) (p3.setOther ⟨w.heap.size + 1, 0, none⟩ _ (.inl (by simp))) (by omega) (by simp <;> omega) ((B3.setCell (by show _ ≤ g; omega) _).setCell (by simp) _)
      · have hfree := tfree_all d k (by omega) hrel.out
        have H1 : ttake d = d := by unfold ttake; rw [if_pos HK.out, hfree]; exact set_free_all _ _
        have H2 : takeV d = fun v => .tuple #[.agg #[v], .int .i64 (-1), .bool false] := by
          have : tok d = false := by unfold tok; rw [hfree, decide_eq_false (Nat.lt_irrefl _), Bool.and_false]
          unfold takeV ttag; rw [this]; rfl
        have H := Lib.hid (And.intro H1 H2)
        clear hfree H1 H2
        have e1 := cells1 (set1 x1 (.slice A2 d.length c2))
        go_wp2_with fail
        refine bodyPost_ret (v := .tuple #[.agg #[.slice A2 d.length c2], .int .i64 (-1), .bool false]) (by simp [results, Try.results25, go_sem, e1]) rfl ?_
        rw [H.out.1, H.out.2]
        exact RetF.of (f := fun v => .tuple #[.agg #[v], .int .i64 (-1), .bool false]) (p2.setOther ⟨w.heap.size + 1, 0, none⟩ _ (.inl (by simp))) (by omega) (by simp <;> omega) (B3.setCell (by simp) _)
theorem implTakeTag_any (A : Option Addr) (n c B : Nat) (d : List Bool) (w : World) (h : Sees w B 1 A n c (bools d)) (hB : B ≤ w.heap.size) :
    Calls Try.prog 22 #[.agg #[.slice A n c]] w (RetF w 4 1 (ttake d).length (bools (ttake d)) (takeV d)) := by
  obtain rfl := h.bool
  have hc1 := h.cap
  have hc2 := h.big
  by_cases h16 : 16 < d.length
  · have h1 : ttake d = [] := by unfold ttake; rw [if_neg (by omega)]
    have h2 : takeV d = fun v => .tuple #[.agg #[v], .int .i64 (-1), .bool false] := by
      have : tok d = false := by unfold tok; rw [decide_eq_false (by omega)]; rfl
      unfold takeV ttag; rw [this]; rfl
    rw [h1, h2]
    clear h1 h2
    go_enter Try.func22, Try.ntmps22
    go_wp2_with fail
    refine bodyPost_ret (v := .tuple #[.agg #[.slice none 0 0], .int .i64 (-1), .bool false]) (by simp [results, Try.results22, go_sem]) rfl ?_
    exact RetF.of (f := fun v => .tuple #[.agg #[v], .int .i64 (-1), .bool false]) (Own.nil _ w.heap.size w.heap.size _ _) (Nat.le_refl _) (by simp <;> omega) ((below_new _ _).alloc (Nat.le_of_lt (by simp)) _)
  · have b0 : Below w.heap.size w ((w.alloc (.cells #[.slice A d.length c] 24)).alloc (.cells #[.slice none 0 0] 24)) := (below_new _ _).alloc (Nat.le_of_lt (by simp)) _
    have h1 := h.below b0 hB
    go_enter Try.func22, Try.ntmps22
    go_wp2_with fail
    refine (cloneB_any _ _ _ _ _ _ h1 (bools_one _) (by simp; omega) (by omega)).mono ?_
    rintro e w2 ⟨A2, c2, rfl, o2, b2⟩
    obtain ⟨r0, r1, z2, B2⟩ := rows2 b2
    simp only [World.size_alloc] at o2
    clear h1 b2 b0
    have x2 : (w2.alloc (.cells #[.slice A2 d.length c2] 24)).heap[w2.heap.size]? = some (.cells #[.slice A2 d.length c2] 24 (0, 0)) := heap_alloc_new w2 _
    have x0 := rowKeep r0 (below_new w2 (.cells #[.slice A2 d.length c2] 24))
    have x1 := rowKeep r1 (below_new w2 (.cells #[.slice A2 d.length c2] 24))
    have p2 := o2.below (below_new w2 (.cells #[.slice A2 d.length c2] 24))
    have B3 := B2.alloc (by omega) (.cells #[.slice A2 d.length c2] 24)
    have zz : w2.heap.size ≤ (w2.alloc (.cells #[.slice A2 d.length c2] 24)).heap.size := by rw [World.size_alloc]; omega
    have m0 := cells1 x0
    have m1 := cells1 x1
    have m2 := cells1 x2
    have n1 := frzRow x1 0
    have HK := Lib.hid (show d.length ≤ 16 by omega)
    go_wp2_with fail
    generalize (w2.alloc (.cells #[.slice A2 d.length c2] 24)) = W at *
    refine (index_any _ _ _ _ _ _ p2.sees).mono ?_
    have hle := tfree_le d
    by_cases hlt : tfree d < d.length
    · have H1 : ttake d = d.set (tfree d) true := by unfold ttake; rw [if_pos HK.out]
      have H2 : takeV d = fun v => .tuple #[.agg #[v], .int .i64 (tfree d : Int), .bool true] := by
        have : tok d = true := by unfold tok; rw [decide_eq_true HK.out, decide_eq_true hlt]; rfl
        unfold takeV ttag; rw [this]; rfl
      have H3 : tidx d = (tfree d : Int) := by unfold tidx; rw [if_pos hlt]
      have H := Lib.hid (And.intro H1 H2)
      rw [H3]
      rintro e w' ⟨rfl, rfl⟩
      clear H1 H2 H3 hle
      generalize tfree d = k at *
      obtain ⟨g, rfl, hg1, hg2, hg3⟩ := p2.head (by omega)
      have hx := p2.cell rfl k _ (bools_get d k hlt)
      have hf := p2.frozen rfl k
      have p3 := p2.set rfl k (.bool true)
      rw [bools_set] at p3
      have y1 := rowSet x1 ⟨g, k, none⟩ (.bool true) (by show _ ≠ g; omega)
      have y2 := cells1 (rowSet x2 ⟨g, k, none⟩ (.bool true) (by show _ ≠ g; omega))
      have l1 := cells1 y1
      have l2 := frzRow y1 0
      have e1 := cells1 (set1 y1 (.slice (some ⟨g, 0, none⟩) d.length c2))
      go_wp2_with fail
      refine bodyPost_ret (v := .tuple #[.agg #[.slice (some ⟨g, 0, none⟩) d.length c2], .int .i64 (k : Int), .bool true]) (by simp [results, Try.results22, go_sem, e1]) rfl ?_
      rw [H.out.1, H.out.2, List.length_set]
      exact RetF.of (f := fun v => .tuple #[.agg #[v], .int .i64 (k : Int), .bool true]) (p3.setOther ⟨w.heap.size + 1, 0, none⟩ _ (.inl (by simp))) (by omega) (by simp <;> omega) ((B3.setCell (by show _ ≤ g; omega) _).setCell (by simp) _)
    · have hfree : tfree d = d.length := by omega
      have H1 : ttake d = d := by unfold ttake; rw [if_pos HK.out, hfree]; exact set_free_all _ _
      have H2 : takeV d = fun v => .tuple #[.agg #[v], .int .i64 (-1), .bool false] := by
        have : tok d = false := by unfold tok; rw [hfree, decide_eq_false (Nat.lt_irrefl _), Bool.and_false]
        unfold takeV ttag; rw [this]; rfl
      have H3 : tidx d = -1 := by unfold tidx; rw [if_neg hlt]
      have H := Lib.hid (And.intro H1 H2)
      rw [H3]
      rintro e w' ⟨rfl, rfl⟩
      clear H1 H2 H3 hle hfree
      have e1 := cells1 (set1 x1 (.slice A2 d.length c2))
      go_wp2_with fail
      refine bodyPost_ret (v := .tuple #[.agg #[.slice A2 d.length c2], .int .i64 (-1), .bool false]) (by simp [results, Try.results22, go_sem, e1]) rfl ?_
      rw [H.out.1, H.out.2]
      exact RetF.of (f := fun v => .tuple #[.agg #[v], .int .i64 (-1), .bool false]) (p2.setOther ⟨w.heap.size + 1, 0, none⟩ _ (.inl (by simp))) (by omega) (by simp <;> omega) (B3.setCell (by simp) _)
end Go.Proofs.Ytophfpdcbkhifaa
