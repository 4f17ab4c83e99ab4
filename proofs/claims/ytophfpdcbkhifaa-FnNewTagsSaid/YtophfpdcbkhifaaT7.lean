/-
  Walks: sameTags of the laws; DrawTagsUsed.
-/
import Derived.Test.YtophfpdcbkhifaaT6
namespace Go.Proofs.Ytophfpdcbkhifaa
open Go.RowKit
theorem bools_pre (d : List Bool) (m : Nat) : (bools d).take (m * 1) = bools (d.take m) := by simp [bools, List.map_take]
theorem Sees.tailB {w : World} {B n c : Nat} {A : Option Addr} {d : List Bool} (h : Sees w B 1 A n c (bools d)) (i : Nat) (hi : i ≤ n) (A' : Option Addr) (hA : c ≠ i → A' = Option.map (fun x => x.add i) A) : Sees w B 1 A' (n - i) (c - i) (bools (d.drop i)) := by
  have hl := h.bool
  have hc := h.cap
  have hb := h.big
  by_cases hci : c = i
  · have hn : n - i = 0 := by omega
    rw [hn, show d.drop i = [] from List.drop_eq_nil_of_le (by omega)]
    exact Sees.none_ _ _ _ _ (by omega) _
  · have hs := h.sub i (n - i) (by omega)
    rw [show ((bools d).drop (i * 1)).take ((n - i) * 1) = bools (d.drop i) by rw [Nat.mul_one, Nat.mul_one, bools, ← List.map_drop, List.take_of_length_le (by simp; omega)]; rfl, Nat.mul_one] at hs
    rw [hA hci]
    exact hs
theorem sameTags_any (A A' : Option Addr) (n c n' c' B B' : Nat) (x y : List Bool) (w : World) (h : Sees w B 1 A n c (bools x)) (h' : Sees w B' 1 A' n' c' (bools y)) (hB : B ≤ w.heap.size) (hB' : B' ≤ w.heap.size) :
    Calls Try.prog 21 #[.agg #[.slice A n c], .agg #[.slice A' n' c']] w (RetPure w (.bool (decide (x = y)))) := by
  have hn := h.bool
  have hn' := h'.bool
  have hc1 := h.cap
  have hc2 := h.big
  have hc3 := h'.cap
  have hc4 := h'.big
  have b0 : Below w.heap.size w ((w.alloc (.cells #[.slice A n c] 24)).alloc (.cells #[.slice A' n' c'] 24)) := (below_new _ _).alloc (Nat.le_of_lt (by simp)) _
  by_cases hnn : n = n'
  case neg =>
    have hd : decide (x = y) = false := by rw [decide_eq_false_iff_not]; rintro rfl; omega
    rw [hd]
    clear hd hn hn'
    go_enter Try.func21, Try.ntmps21
    go_wp2_with fail
    go_ret
    exact ⟨rfl, b0⟩
  case pos =>
  subst hnn
  have HN : Hid (x.length = n ∧ y.length = n) := Lib.hid ⟨hn, hn'⟩
  have j0 := h.below b0 hB
  have j1 := h'.below b0 hB'
  have r0 : ((w.alloc (.cells #[.slice A n c] 24)).alloc (.cells #[.slice A' n c'] 24)).heap[w.heap.size]? = some (.cells #[.slice A n c] 24 (0, 0)) := rowKeep (heap_alloc_new w _) (below_new _ _)
  have r1 : ((w.alloc (.cells #[.slice A n c] 24)).alloc (.cells #[.slice A' n c'] 24)).heap[w.heap.size + 1]? = some (.cells #[.slice A' n c'] 24 (0, 0)) := by have := heap_alloc_new (w.alloc (.cells #[.slice A n c] 24)) (.cells #[.slice A' n c'] 24); rwa [World.size_alloc] at this
  clear hn hn'
  go_enter Try.func21, Try.ntmps21
  go_wp2_with fail
  generalize ((w.alloc (.cells #[.slice A n c] 24)).alloc (.cells #[.slice A' n c'] 24)) = W at *
  go_loopw [5] (fun i wr => ∃ (k q : Nat), k ≤ n ∧ i = .int .i64 k ∧ Hid (x.take k = y.take k) ∧ wr = W.drewN q) (fun i _ => n - (intOf i).toNat)
  case atStart => exact ⟨0, 0, Nat.zero_le _, rfl, rfl, rfl⟩
  case round =>
    obtain ⟨k, q, hk, rfl, hrel, rfl⟩ := hrel
    have m0 := cells1 r0
    have m1 := cells1 r1
    by_cases hlt : k < n
    · have hkx : k < x.length := by rw [HN.out.1]; exact hlt
      have hky : k < y.length := by rw [HN.out.2]; exact hlt
      obtain ⟨b, o, rfl, _, hcell⟩ := j0.bool_at (by omega)
      obtain ⟨b', o', rfl, _, hcell'⟩ := j1.bool_at (by omega)
      have hx := hcell k hkx
      have hy := hcell' k hky
      clear hcell hcell'
      have i1 : (0 : Int) ≤ (k : Int) := by omega
      have i2 : (k : Int) < (n : Int) := by omega
      by_cases he : x[k] = y[k]
      · have hst := Lib.hid (take_eq_stepB x y k hkx hky hrel.out he)
        rw [← he] at hy
        clear he
        generalize x[k] = v at hx hy
        go_wp2_with fail
        go_quiet (fail)
        go_wp2
        go_roundw
        case rel => exact ⟨k + 1, _, by omega, by go_num, hst, rfl⟩
        case measure => simp [intOf]; omega
      · have hst := Lib.hid (get_neB x y k hkx hky he)
        have hb : y[k] = !x[k] := by cases hx2 : x[k] <;> cases hy2 : y[k] <;> simp_all
        rw [hb] at hy
        clear hb he
        generalize x[k] = v at hx hy
        cases v
        all_goals
          simp only [Bool.not_false, Bool.not_true] at hy
          go_wp2_with fail
          go_quiet (fail)
          go_wp2
          go_ret
          exact ⟨ret_bool hst.out, below_drewN (below_drewN b0 _) _⟩
    · go_wp2
      go_ret
      exact ⟨ret_bool (take_eq_endB x y k (by rw [HN.out.1]; omega) (by rw [HN.out.2]; omega) hrel.out), below_drewN b0 _⟩
theorem sameTags_t (A A' : Option Addr) (n c n' c' B B' : Nat) (x : List Bool) (w : World) (h : Sees w B 1 A n c (bools x)) (h' : Sees w B' 1 A' n' c' (bools x)) (hB : B ≤ w.heap.size) (hB' : B' ≤ w.heap.size) :
    Calls Try.prog 21 #[.agg #[.slice A n c], .agg #[.slice A' n' c']] w (RetPure w (.bool true)) := by
  have := sameTags_any A A' n c n' c' B B' x x w h h' hB hB'
  rw [decide_eq_true rfl] at this
  exact this
/-- the law's box of tags behind k takings -/
def AtTake (w wr : World) (gt m k : Nat) : Prop :=
  ∃ A c lo hi, wr.heap[gt]? = some (.cells #[.slice A m c] 24 (0, 0)) ∧ Own wr lo hi 4 1 A m c (bools (tsome m k)) ∧ (hi ≤ gt ∨ gt < lo) ∧ hi ≤ wr.heap.size ∧ Below w.heap.size w wr ∧ (w.heap.size ≤ gt ∧ gt < wr.heap.size)
/-- A call's end: some tags in new memory; nothing that was there has changed. -/
def RetSomeTags (w : World) (en : Ending) (w' : World) : Prop :=
  ∃ A c d, en = .returned (.agg #[.slice A (List.length d) c]) ∧ (Own w' w.heap.size w'.heap.size 4 1 A (List.length d) c (bools d) ∧ List.length d ≤ 17) ∧ Below w.heap.size w w'
theorem drawTagsUsed_any (A : Option Addr) (n c B : Nat) (bs : List Int) (w : World) (h : Sees w B 1 A n c (byts bs)) (hB : B ≤ w.heap.size) (hb : ∀ v ∈ bs, 0 ≤ v ∧ v ≤ 255) :
    Calls Try.prog 18 #[.slice A n c] w (RetSomeTags w) := by
  have b0 := below_new w (.cells #[.slice none 0 0] 24)
  have r0 : (w.alloc (.cells #[.slice none 0 0] 24)).heap[w.heap.size]? = some (.cells #[.slice none 0 0] 24 (0, 0)) := heap_alloc_new w _
  have h0 := h.below b0 hB
  have zz : w.heap.size < (w.alloc (.cells #[.slice none 0 0] 24)).heap.size := by simp
  go_enter Try.func18, Try.ntmps18
  go_wp2_with fail
  generalize (w.alloc (.cells #[.slice none 0 0] 24)) = W at *
  refine (open_any _ _ _ _ _ _ h0 (by omega) hb).mono ?_
  rintro e w1 ⟨rfl, hr, hb1, hs1⟩
  have s1 : W.heap.size < w1.heap.size := by omega
  replace r0 := rowKeep r0 hb1
  replace b0 := below_later b0 hb1 (Nat.le_refl _)
  clear h0 hb1 hs1
  go_wp2_with fail
  refine (tags_any W.heap.size 0 9 _ hr (by omega) (by omega) (by omega)).mono ?_
  rintro e w2 ⟨A2, c2, d, q, rfl, ⟨ho, hd⟩, hq, hr2, hf⟩
  have s2 := hf.size
  replace r0 := rowFr r0 hf (.inl (by omega))
  replace b0 := hf.below b0 (by omega) (by omega)
  clear hf hr hr2
  have m0 := cells1 r0
  have z0 := frzRow r0 0
  have k0 := cells1 (set1 r0 (.slice A2 d.length c2))
  go_wp2_with fail
  refine bodyPost_ret (v := .agg #[.slice A2 d.length c2]) (by simp [results, Try.results18, go_sem, k0]) rfl ?_
  exact ⟨A2, c2, d, rfl, ⟨(ho.setOther ⟨w.heap.size, 0, none⟩ _ (.inl (by simp <;> omega))).wide (by omega) (by simp), hd⟩, b0.setCell (by simp) _⟩
end Go.Proofs.Ytophfpdcbkhifaa
