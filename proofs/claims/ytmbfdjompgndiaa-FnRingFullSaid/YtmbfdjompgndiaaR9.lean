/-
  Walks: the draws of rings; sameRing of the laws.
-/
import Derived.Test.YtmbfdjompgndiaaR8
namespace Go.Proofs.Ytmbfdjompgndiaa
open Go.RowKit
/-- A call's end: some number within bounds; nothing that was there has changed. -/
def RetIn (w : World) (lo hi : Int) (en : Ending) (w' : World) : Prop := ∃ k : Int, en = .returned (.int .i64 k) ∧ (lo ≤ k ∧ k ≤ hi) ∧ Below w.heap.size w w'
/-- A call's end: some ring in new memory; nothing that was there has changed. -/
def RetSomeRing (w : World) (en : Ending) (w' : World) : Prop :=
  ∃ A c d hd tl, en = .returned (.agg #[.slice A (List.length d) c, .int .i64 hd, .int .i64 tl]) ∧ (Own w' w.heap.size w'.heap.size 3 1 A (List.length d) c (ints d) ∧ List.length d ≤ 17) ∧ ((-1 ≤ hd ∧ hd ≤ 17) ∧ (-1 ≤ tl ∧ tl ≤ 17)) ∧ Below w.heap.size w w'
def RetRingInt (w : World) (en : Ending) (w' : World) : Prop :=
  ∃ A c d hd tl, ∃ v : Int, en = .returned (.tuple #[.agg #[.slice A (List.length d) c, .int .i64 hd, .int .i64 tl], .int .i64 v]) ∧ (Own w' w.heap.size w'.heap.size 3 1 A (List.length d) c (ints d) ∧ List.length d ≤ 17) ∧ ((-1 ≤ hd ∧ hd ≤ 17) ∧ (-1 ≤ tl ∧ tl ≤ 17) ∧ (-50 ≤ v ∧ v ≤ 150)) ∧ Below w.heap.size w w'
theorem drawNewRing_any (A : Option Addr) (n c B : Nat) (bs : List Int) (w : World) (h : Sees w B 1 A n c (byts bs)) (hB : B ≤ w.heap.size) (hb : ∀ v ∈ bs, 0 ≤ v ∧ v ≤ 255) :
    Calls Try.prog 30 #[.slice A n c] w (RetIn w (-1) 18) := by
  go_enter Try.func30, Try.ntmps30
  go_wp2_with fail
  refine (open_any _ _ _ _ _ _ h hB hb).mono ?_
  rintro e w1 ⟨rfl, hr, hb1, _⟩
  go_wp2_with fail
  refine (pick_any _ _ _ _ hr (by omega)).mono ?_
  rintro e w2 ⟨k, rfl, hk, hr2, hf2, hs2⟩
  have HS := Lib.hid hs2
  clear hs2
  go_wp2_with fail
  go_ret
  exact ⟨_, rfl, by omega, hf2.below hb1 (Nat.le_refl _) (Nat.le_refl _)⟩
theorem drawRingValid_any (A : Option Addr) (n c B : Nat) (bs : List Int) (w : World) (h : Sees w B 1 A n c (byts bs)) (hB : B ≤ w.heap.size) (hb : ∀ v ∈ bs, 0 ≤ v ∧ v ≤ 255) :
    Calls Try.prog 28 #[.slice A n c] w (RetSomeRing w) := by
  have b0 := below_new w (.cells #[.slice none 0 0, .int .i64 0, .int .i64 0] 27)
  have r0 : (w.alloc (.cells #[.slice none 0 0, .int .i64 0, .int .i64 0] 27)).heap[w.heap.size]? = some (.cells #[.slice none 0 0, .int .i64 0, .int .i64 0] 27 (0, 0)) := heap_alloc_new w _
  have h0 := h.below b0 hB
  have zz : w.heap.size < (w.alloc (.cells #[.slice none 0 0, .int .i64 0, .int .i64 0] 27)).heap.size := by simp
  go_enter Try.func28, Try.ntmps28
  go_wp2_with fail
  generalize (w.alloc (.cells #[.slice none 0 0, .int .i64 0, .int .i64 0] 27)) = W at *
  refine (open_any _ _ _ _ _ _ h0 (by omega) hb).mono ?_
  rintro e w1 ⟨rfl, hr, hb1, hs1⟩
  have s1 : W.heap.size < w1.heap.size := by omega
  replace r0 := rowKeep r0 hb1
  replace b0 := below_later b0 hb1 (Nat.le_refl _)
  clear h0 hb1 hs1
  go_wp2_with fail
  refine (ring_any W.heap.size 0 2 _ hr (by omega) (by omega) (by omega)).mono ?_
  rintro e w2 ⟨A2, c2, d, hd, tl, q, rfl, ⟨ho, hdl⟩, hbd, hq, hr2, hf⟩
  have s2 := hf.size
  replace r0 := rowFr r0 hf (.inl (by omega))
  replace b0 := hf.below b0 (by omega) (by omega)
  clear hf hr hr2
  obtain ⟨m0, m1, m2⟩ := cells3 r0
  obtain ⟨mf0, mf1, mf2⟩ := frz3 r0
  obtain ⟨k0, k1, k2⟩ := cells3 (set32 (set31 (set30 r0 (.slice A2 d.length c2)) (.int .i64 hd)) (.int .i64 tl))
  go_wp2_with fail
  refine bodyPost_ret (v := .agg #[.slice A2 d.length c2, .int .i64 hd, .int .i64 tl]) (by simp [results, Try.results28, go_sem, k0, k1, k2]) rfl ?_
  exact ⟨A2, c2, d, hd, tl, rfl, ⟨(((ho.setOther ⟨w.heap.size, 0, none⟩ _ (.inl (by simp <;> omega))).setOther ⟨w.heap.size, 1, none⟩ _ (.inl (by simp <;> omega))).setOther ⟨w.heap.size, 2, none⟩ _ (.inl (by simp <;> omega))).wide (by omega) (by simp), hdl⟩, hbd, ((b0.setCell (by simp) _).setCell (by simp) _).setCell (by simp) _⟩
theorem drawRingCount_any (A : Option Addr) (n c B : Nat) (bs : List Int) (w : World) (h : Sees w B 1 A n c (byts bs)) (hB : B ≤ w.heap.size) (hb : ∀ v ∈ bs, 0 ≤ v ∧ v ≤ 255) :
    Calls Try.prog 38 #[.slice A n c] w (RetSomeRing w) := by
  have b0 := below_new w (.cells #[.slice none 0 0, .int .i64 0, .int .i64 0] 27)
  have r0 : (w.alloc (.cells #[.slice none 0 0, .int .i64 0, .int .i64 0] 27)).heap[w.heap.size]? = some (.cells #[.slice none 0 0, .int .i64 0, .int .i64 0] 27 (0, 0)) := heap_alloc_new w _
  have h0 := h.below b0 hB
  have zz : w.heap.size < (w.alloc (.cells #[.slice none 0 0, .int .i64 0, .int .i64 0] 27)).heap.size := by simp
  go_enter Try.func38, Try.ntmps38
  go_wp2_with fail
  generalize (w.alloc (.cells #[.slice none 0 0, .int .i64 0, .int .i64 0] 27)) = W at *
  refine (open_any _ _ _ _ _ _ h0 (by omega) hb).mono ?_
  rintro e w1 ⟨rfl, hr, hb1, hs1⟩
  have s1 : W.heap.size < w1.heap.size := by omega
  replace r0 := rowKeep r0 hb1
  replace b0 := below_later b0 hb1 (Nat.le_refl _)
  clear h0 hb1 hs1
  go_wp2_with fail
  refine (ring_any W.heap.size 0 6 _ hr (by omega) (by omega) (by omega)).mono ?_
  rintro e w2 ⟨A2, c2, d, hd, tl, q, rfl, ⟨ho, hdl⟩, hbd, hq, hr2, hf⟩
  have s2 := hf.size
  replace r0 := rowFr r0 hf (.inl (by omega))
  replace b0 := hf.below b0 (by omega) (by omega)
  clear hf hr hr2
  obtain ⟨m0, m1, m2⟩ := cells3 r0
  obtain ⟨mf0, mf1, mf2⟩ := frz3 r0
  obtain ⟨k0, k1, k2⟩ := cells3 (set32 (set31 (set30 r0 (.slice A2 d.length c2)) (.int .i64 hd)) (.int .i64 tl))
  go_wp2_with fail
  refine bodyPost_ret (v := .agg #[.slice A2 d.length c2, .int .i64 hd, .int .i64 tl]) (by simp [results, Try.results38, go_sem, k0, k1, k2]) rfl ?_
  exact ⟨A2, c2, d, hd, tl, rfl, ⟨(((ho.setOther ⟨w.heap.size, 0, none⟩ _ (.inl (by simp <;> omega))).setOther ⟨w.heap.size, 1, none⟩ _ (.inl (by simp <;> omega))).setOther ⟨w.heap.size, 2, none⟩ _ (.inl (by simp <;> omega))).wide (by omega) (by simp), hdl⟩, hbd, ((b0.setCell (by simp) _).setCell (by simp) _).setCell (by simp) _⟩
theorem drawRingPop_any (A : Option Addr) (n c B : Nat) (bs : List Int) (w : World) (h : Sees w B 1 A n c (byts bs)) (hB : B ≤ w.heap.size) (hb : ∀ v ∈ bs, 0 ≤ v ∧ v ≤ 255) :
    Calls Try.prog 42 #[.slice A n c] w (RetSomeRing w) := by
  have b0 := below_new w (.cells #[.slice none 0 0, .int .i64 0, .int .i64 0] 27)
  have r0 : (w.alloc (.cells #[.slice none 0 0, .int .i64 0, .int .i64 0] 27)).heap[w.heap.size]? = some (.cells #[.slice none 0 0, .int .i64 0, .int .i64 0] 27 (0, 0)) := heap_alloc_new w _
  have h0 := h.below b0 hB
  have zz : w.heap.size < (w.alloc (.cells #[.slice none 0 0, .int .i64 0, .int .i64 0] 27)).heap.size := by simp
  go_enter Try.func42, Try.ntmps42
  go_wp2_with fail
  generalize (w.alloc (.cells #[.slice none 0 0, .int .i64 0, .int .i64 0] 27)) = W at *
  refine (open_any _ _ _ _ _ _ h0 (by omega) hb).mono ?_
  rintro e w1 ⟨rfl, hr, hb1, hs1⟩
  have s1 : W.heap.size < w1.heap.size := by omega
  replace r0 := rowKeep r0 hb1
  replace b0 := below_later b0 hb1 (Nat.le_refl _)
  clear h0 hb1 hs1
  go_wp2_with fail
  refine (ring_any W.heap.size 0 9 _ hr (by omega) (by omega) (by omega)).mono ?_
  rintro e w2 ⟨A2, c2, d, hd, tl, q, rfl, ⟨ho, hdl⟩, hbd, hq, hr2, hf⟩
  have s2 := hf.size
  replace r0 := rowFr r0 hf (.inl (by omega))
  replace b0 := hf.below b0 (by omega) (by omega)
  clear hf hr hr2
  obtain ⟨m0, m1, m2⟩ := cells3 r0
  obtain ⟨mf0, mf1, mf2⟩ := frz3 r0
  obtain ⟨k0, k1, k2⟩ := cells3 (set32 (set31 (set30 r0 (.slice A2 d.length c2)) (.int .i64 hd)) (.int .i64 tl))
  go_wp2_with fail
  refine bodyPost_ret (v := .agg #[.slice A2 d.length c2, .int .i64 hd, .int .i64 tl]) (by simp [results, Try.results42, go_sem, k0, k1, k2]) rfl ?_
  exact ⟨A2, c2, d, hd, tl, rfl, ⟨(((ho.setOther ⟨w.heap.size, 0, none⟩ _ (.inl (by simp <;> omega))).setOther ⟨w.heap.size, 1, none⟩ _ (.inl (by simp <;> omega))).setOther ⟨w.heap.size, 2, none⟩ _ (.inl (by simp <;> omega))).wide (by omega) (by simp), hdl⟩, hbd, ((b0.setCell (by simp) _).setCell (by simp) _).setCell (by simp) _⟩
theorem drawRingList_any (A : Option Addr) (n c B : Nat) (bs : List Int) (w : World) (h : Sees w B 1 A n c (byts bs)) (hB : B ≤ w.heap.size) (hb : ∀ v ∈ bs, 0 ≤ v ∧ v ≤ 255) :
    Calls Try.prog 44 #[.slice A n c] w (RetSomeRing w) := by
  have b0 := below_new w (.cells #[.slice none 0 0, .int .i64 0, .int .i64 0] 27)
  have r0 : (w.alloc (.cells #[.slice none 0 0, .int .i64 0, .int .i64 0] 27)).heap[w.heap.size]? = some (.cells #[.slice none 0 0, .int .i64 0, .int .i64 0] 27 (0, 0)) := heap_alloc_new w _
  have h0 := h.below b0 hB
  have zz : w.heap.size < (w.alloc (.cells #[.slice none 0 0, .int .i64 0, .int .i64 0] 27)).heap.size := by simp
  go_enter Try.func44, Try.ntmps44
  go_wp2_with fail
  generalize (w.alloc (.cells #[.slice none 0 0, .int .i64 0, .int .i64 0] 27)) = W at *
  refine (open_any _ _ _ _ _ _ h0 (by omega) hb).mono ?_
  rintro e w1 ⟨rfl, hr, hb1, hs1⟩
  have s1 : W.heap.size < w1.heap.size := by omega
  replace r0 := rowKeep r0 hb1
  replace b0 := below_later b0 hb1 (Nat.le_refl _)
  clear h0 hb1 hs1
  go_wp2_with fail
  refine (ring_any W.heap.size 0 9 _ hr (by omega) (by omega) (by omega)).mono ?_
  rintro e w2 ⟨A2, c2, d, hd, tl, q, rfl, ⟨ho, hdl⟩, hbd, hq, hr2, hf⟩
  have s2 := hf.size
  replace r0 := rowFr r0 hf (.inl (by omega))
  replace b0 := hf.below b0 (by omega) (by omega)
  clear hf hr hr2
  obtain ⟨m0, m1, m2⟩ := cells3 r0
  obtain ⟨mf0, mf1, mf2⟩ := frz3 r0
  obtain ⟨k0, k1, k2⟩ := cells3 (set32 (set31 (set30 r0 (.slice A2 d.length c2)) (.int .i64 hd)) (.int .i64 tl))
  go_wp2_with fail
  refine bodyPost_ret (v := .agg #[.slice A2 d.length c2, .int .i64 hd, .int .i64 tl]) (by simp [results, Try.results44, go_sem, k0, k1, k2]) rfl ?_
  exact ⟨A2, c2, d, hd, tl, rfl, ⟨(((ho.setOther ⟨w.heap.size, 0, none⟩ _ (.inl (by simp <;> omega))).setOther ⟨w.heap.size, 1, none⟩ _ (.inl (by simp <;> omega))).setOther ⟨w.heap.size, 2, none⟩ _ (.inl (by simp <;> omega))).wide (by omega) (by simp), hdl⟩, hbd, ((b0.setCell (by simp) _).setCell (by simp) _).setCell (by simp) _⟩
set_option maxHeartbeats 1000000 in
theorem drawRingPush_any (A : Option Addr) (n c B : Nat) (bs : List Int) (w : World) (h : Sees w B 1 A n c (byts bs)) (hB : B ≤ w.heap.size) (hb : ∀ v ∈ bs, 0 ≤ v ∧ v ≤ 255) :
    Calls Try.prog 45 #[.slice A n c] w (RetRingInt w) := by
  have b0 := below_new w (.cells #[.slice none 0 0, .int .i64 0, .int .i64 0] 27)
  have r0 : (w.alloc (.cells #[.slice none 0 0, .int .i64 0, .int .i64 0] 27)).heap[w.heap.size]? = some (.cells #[.slice none 0 0, .int .i64 0, .int .i64 0] 27 (0, 0)) := heap_alloc_new w _
  have h0 := h.below b0 hB
  have zz : w.heap.size < (w.alloc (.cells #[.slice none 0 0, .int .i64 0, .int .i64 0] 27)).heap.size := by simp
  go_enter Try.func45, Try.ntmps45
  go_wp2_with fail
  generalize (w.alloc (.cells #[.slice none 0 0, .int .i64 0, .int .i64 0] 27)) = W at *
  refine (open_any _ _ _ _ _ _ h0 (by omega) hb).mono ?_
  rintro e w1 ⟨rfl, hr, hb1, hs1⟩
  have s1 : W.heap.size < w1.heap.size := by omega
  replace r0 := rowKeep r0 hb1
  replace b0 := below_later b0 hb1 (Nat.le_refl _)
  clear h0 hb1 hs1
  go_wp2_with fail
  refine (ring_any W.heap.size 0 9 _ hr (by omega) (by omega) (by omega)).mono ?_
  rintro e w2 ⟨A2, c2, d, hd, tl, q, rfl, ⟨ho, hdl⟩, hbd, hq, hr2, hf⟩
  have s2 := hf.size
  replace r0 := rowFr r0 hf (.inl (by omega))
  replace b0 := hf.below b0 (by omega) (by omega)
  clear hf hr
  have g2 := below_new w2 (.cells #[.slice A2 d.length c2, .int .i64 hd, .int .i64 tl] 27)
  have rx : (w2.alloc (.cells #[.slice A2 d.length c2, .int .i64 hd, .int .i64 tl] 27)).heap[w2.heap.size]? = some (.cells #[.slice A2 d.length c2, .int .i64 hd, .int .i64 tl] 27 (0, 0)) := heap_alloc_new w2 _
  replace r0 := rowKeep r0 g2
  replace b0 := below_later b0 g2 (Nat.le_refl _)
  replace ho := ho.below g2
  have hr3 := hr2.below g2
  have s3 : w2.heap.size < (w2.alloc (.cells #[.slice A2 d.length c2, .int .i64 hd, .int .i64 tl] 27)).heap.size := by simp
  clear g2 hr2
  obtain ⟨x0, x1, x2⟩ := cells3 rx
  go_wp2_with fail
  generalize (w2.alloc (.cells #[.slice A2 d.length c2, .int .i64 hd, .int .i64 tl] 27)) = W3 at *
  go_region_held3 (fun w' => w'.cell? ⟨w2.heap.size, 0, none⟩ = some (.slice A2 d.length c2) ∧ w'.cell? ⟨w2.heap.size, 1, none⟩ = some (.int .i64 hd) ∧ w'.cell? ⟨w2.heap.size, 2, none⟩ = some (.int .i64 tl)) (first | (refine ⟨?_, ?_, ?_⟩ <;> assumption) | exact HK.out | go_keep)
    (first | (go_at_call 54; refine (pick_any W.heap.size q 200 _ (hr3.drewN 1) (by omega)).mono ?_; rintro e w4 ⟨k, rfl, hk, hr4, hf4, hs4⟩; have hk' : 0 ≤ k ∧ k < 200 := (by omega); have ew : IntKind.i64.wrap (k - 50) = k - 50 := (IntWalk.i64_in _ (by omega)); have s4 : W3.heap.size ≤ w4.heap.size := Nat.le_of_eq hs4.symm; replace r0 := rowFr (w := W3.drewN 1) r0 hf4 (.inl (by omega)); replace rx := rowFr (w := W3.drewN 1) rx hf4 (.inr (by omega)); replace ho := (ho.drewN 1).fr hf4 (.inr (by omega)); replace b0 := hf4.below (below_drewN b0 1) (by omega) (by show w.heap.size ≤ w.heap.size; omega); clear hf4 hs4 hr4 hk x0 x1 x2; obtain ⟨x0, x1, x2⟩ := cells3 rx; obtain ⟨m0, m1, m2⟩ := cells3 r0; obtain ⟨mf0, mf1, mf2⟩ := frz3 r0; have HK := Lib.hid (cells3 (rowSet (rowSet (rowSet rx ⟨w.heap.size, 0, none⟩ (.slice A2 d.length c2) (by simp <;> omega)) ⟨w.heap.size, 1, none⟩ (.int .i64 hd) (by simp <;> omega)) ⟨w.heap.size, 2, none⟩ (.int .i64 tl) (by simp <;> omega)))))
  obtain ⟨k0, k1, k2⟩ := cells3 (set32 (set31 (set30 r0 (.slice A2 d.length c2)) (.int .i64 hd)) (.int .i64 tl))
  go_wp2_with fail
  refine bodyPost_ret (v := .tuple #[.agg #[.slice A2 d.length c2, .int .i64 hd, .int .i64 tl], .int .i64 (k - 50)]) (by simp [results, Try.results45, go_sem, k0, k1, k2]) rfl ?_
  exact ⟨A2, c2, d, hd, tl, k - 50, rfl, ⟨(((ho.setOther ⟨w.heap.size, 0, none⟩ _ (.inl (by simp <;> omega))).setOther ⟨w.heap.size, 1, none⟩ _ (.inl (by simp <;> omega))).setOther ⟨w.heap.size, 2, none⟩ _ (.inl (by simp <;> omega))).wide (by omega) (by simp; omega), hdl⟩, ⟨hbd.1, hbd.2, by omega⟩, ((b0.setCell (by simp) _).setCell (by simp) _).setCell (by simp) _⟩
theorem seesRow1 {w : World} {g : Nat} {v : Int} {t : TypeId} {fr : Nat × Nat} (e : w.heap[g]? = some (.cells #[.int .i64 v] t fr)) : Sees w (g + 1) 1 (some ⟨g, 0, none⟩) 1 1 (ints [v]) :=
  ⟨rfl, Nat.le_refl _, by omega, fun _ => ⟨g, 0, rfl, by omega, fun j u hu => by
    match j, hu with
    | 0, hu => simp [ints] at hu; subst hu; exact cell_of_row w g 0 _ t fr e⟩⟩
theorem sameRing_any (A A' : Option Addr) (n c n' c' B B' : Nat) (x y : List Int) (h1 t1 h2 t2 : Int) (w : World) (h : Sees w B 1 A n c (ints x)) (h' : Sees w B' 1 A' n' c' (ints y)) (hB : B ≤ w.heap.size) (hB' : B' ≤ w.heap.size) :
    Calls Try.prog 31 #[.agg #[.slice A n c, .int .i64 h1, .int .i64 t1], .agg #[.slice A' n' c', .int .i64 h2, .int .i64 t2]] w (RetPure w (.bool (ringEq ⟨x, h1, t1⟩ ⟨y, h2, t2⟩))) := by
  have b0 : Below w.heap.size w ((w.alloc (.cells #[.slice A n c, .int .i64 h1, .int .i64 t1] 27)).alloc (.cells #[.slice A' n' c', .int .i64 h2, .int .i64 t2] 27)) := (below_new _ _).alloc (Nat.le_of_lt (by simp)) _
  have j0 := h.below b0 hB
  have j1 := h'.below b0 hB'
  by_cases hx : x = y
  · have HX := Lib.hid hx
    have hs := sameInts_any _ _ _ _ _ _ _ _ _ _ _ j0 j1
    rw [decide_eq_true hx] at hs
    clear hx
    go_enter Try.func31, Try.ntmps31
    go_wp2_with fail
    refine hs.mono ?_
    rintro e w1 ⟨rfl, b1⟩
    obtain ⟨r0, r1, _, B1⟩ := rows2 b1
    obtain ⟨m0, m1, m2⟩ := cells3 r0
    obtain ⟨n0, n1, n2⟩ := cells3 r1
    clear j0 j1 hs
    go_wp2_with fail
    all_goals
      go_ret
      refine ⟨ret_bool ?_, B1⟩
      have := HX.out
      subst this
      rw [Bool.eq_iff_iff]
      simp only [ringEq, decide_eq_true_iff, true_and, beq_iff_eq, Bool.false_eq_true, false_iff, not_and] at *
      simp_all
  · have HX := Lib.hid hx
    have hs := sameInts_any _ _ _ _ _ _ _ _ _ _ _ j0 j1
    rw [decide_eq_false hx] at hs
    clear hx
    go_enter Try.func31, Try.ntmps31
    go_wp2_with fail
    refine hs.mono ?_
    rintro e w1 ⟨rfl, b1⟩
    obtain ⟨r0, r1, _, B1⟩ := rows2 b1
    clear j0 j1 hs
    go_wp2_with fail
    go_ret
    refine ⟨ret_bool ?_, B1⟩
    rw [eq_comm, Bool.eq_false_iff]
    intro h
    simp only [ringEq, decide_eq_true_iff] at h
    exact HX.out h.1
theorem sameRing_t (A A' : Option Addr) (n c n' c' B B' : Nat) (x : List Int) (h1 t1 : Int) (w : World) (h : Sees w B 1 A n c (ints x)) (h' : Sees w B' 1 A' n' c' (ints x)) (hB : B ≤ w.heap.size) (hB' : B' ≤ w.heap.size) :
    Calls Try.prog 31 #[.agg #[.slice A n c, .int .i64 h1, .int .i64 t1], .agg #[.slice A' n' c', .int .i64 h1, .int .i64 t1]] w (RetPure w (.bool true)) := by
  have := sameRing_any A A' n c n' c' B B' x x h1 t1 h1 t1 w h h' hB hB'
  rw [show ringEq ⟨x, h1, t1⟩ ⟨x, h1, t1⟩ = true by simp [ringEq]] at this
  exact this
end Go.Proofs.Ytmbfdjompgndiaa
