/-
  Walks: the draws of tags (DrawNewTags, l20Tags, DrawTagsUsed).
-/
import Derived.Test.YtophfpdcbkhifaaT3
import Derived.Test.YtophfpdcbkhifaaS2
import Derived.Test.YtophfpdcbkhifaaP3
import Derived.Deep.DeepCutAuto
import Derived.IntWalk
import Derived.Deep.RegionLaw
namespace Go.Proofs.Ytophfpdcbkhifaa
open Go.RowKit
/-- A call's end: some number within bounds; nothing that was there has changed. -/
def RetIn (w : World) (lo hi : Int) (en : Ending) (w' : World) : Prop := ∃ k : Int, en = .returned (.int .i64 k) ∧ (lo ≤ k ∧ k ≤ hi) ∧ Below w.heap.size w w'
theorem fr_reader {w w1 w2 : World} (b : Below w.heap.size w w1) (f : Fr w.heap.size (w.heap.size + 1) w1 w2) : Below w.heap.size w w2 := f.below b (Nat.le_refl _) (Nat.le_refl _)
theorem drawNewTags_any (A : Option Addr) (n c B : Nat) (bs : List Int) (w : World) (h : Sees w B 1 A n c (byts bs)) (hB : B ≤ w.heap.size) (hb : ∀ v ∈ bs, 0 ≤ v ∧ v ≤ 255) :
    Calls Try.prog 20 #[.slice A n c] w (RetIn w (-1) 17) := by
  go_enter Try.func20, Try.ntmps20
  go_wp2_with fail
  refine (open_any _ _ _ _ _ _ h hB hb).mono ?_
  rintro e w1 ⟨rfl, hr, hb1, _⟩
  go_wp2_with fail
  refine (pick_any _ _ _ _ hr (by omega)).mono ?_
  rintro e w2 ⟨k, rfl, hk, hr2, hf2, hs2⟩
  have HS := Lib.hid hs2
  clear hs2
  go_wp2_with fail
  go_ret
  exact ⟨_, rfl, by omega, fr_reader hb1 hf2⟩
theorem Rd.drewN {w : World} {R p : Nat} (h : Rd w R p) (q : Nat) : Rd (w.drewN q) R p := h.keep fun _ _ => rfl
theorem fr_setc {lo hi : Nat} {w w' : World} (h : Fr lo hi w w') {p : Addr} (hp : w.heap.size ≤ p.block) (u : Value) : Fr lo hi w (w'.setCell p u) :=
  ⟨h.os, h.tape, h.output, by rw [World.size_setCell]; exact h.size, fun k hk hh => (heap_setCell_other w' p k u (by omega)).trans (h.block k hk hh)⟩
theorem fr_later {lo hi l2 h2 : Nat} {w w1 w2 w3 : World} (f : Fr lo hi w w1) (b : Below w1.heap.size w1 w2) (g : Fr l2 h2 w2 w3) (h : w.heap.size ≤ l2) : Fr lo hi w w3 :=
  ⟨g.os.trans (b.os.trans f.os), g.tape.trans (b.tape.trans f.tape), g.output.trans (b.output.trans f.output), Nat.le_trans f.size (Nat.le_trans b.size g.size), fun k hk hh => (g.block k (by have := f.size; have := b.size; omega) (.inl (by omega))).trans ((b.block k (by have := f.size; omega)).trans (f.block k hk hh))⟩
/-- What l20Tags leaves: some tags in new memory; the reader some places further; nothing else has changed. -/
def RetTags (w : World) (R p : Nat) (en : Ending) (w' : World) : Prop :=
  ∃ A c d q, en = .returned (.agg #[.slice A (List.length d) c]) ∧ (Own w' w.heap.size w'.heap.size 4 1 A (List.length d) c (bools d) ∧ List.length d ≤ 17) ∧ (p ≤ q ∧ q ≤ p + 100) ∧ Rd w' R q ∧ Fr R (R + 1) w w'
def AtTags (w wr : World) (R p : Nat) (j : Int) : Prop :=
  ∃ A c d q, (wr.heap[w.heap.size]? = some (.cells #[.slice none 0 0] 24 (0, 0)) ∧ wr.heap[w.heap.size + 1]? = some (.cells #[.slice A (List.length d) c] 24 (0, 0))) ∧ Own wr (w.heap.size + 1 + 1) wr.heap.size 4 1 A (List.length d) c (bools d) ∧ ((List.length d : Int) + j ≤ 7) ∧ (p ≤ q ∧ (q : Int) + j ≤ p + 9) ∧ Rd wr R q ∧ Fr R (R + 1) w wr
set_option maxHeartbeats 1000000 in
theorem tags_any (R p : Nat) (m : Int) (w : World) (h : Rd w R p) (hp : p ≤ 1000000000000) (hm1 : -9223372036854775808 < m) (hm2 : m ≤ 9223372036854775807) :
    Calls Try.prog 33 #[.pointer (some ⟨R, 0, none⟩), .int .i64 m] w (RetTags w R p) := by
  obtain ⟨i0, hi0, hz0, hz1, hz2⟩ := info_parts bool_info
  have hRw := h.lt
  have h1 := (h.alloc (.cells #[.slice none 0 0] 24)).alloc (.cells #[.slice none 0 0] 24)
  have r1 : ((w.alloc (.cells #[.slice none 0 0] 24)).alloc (.cells #[.slice none 0 0] 24)).heap[w.heap.size + 1]? = some (.cells #[.slice none 0 0] 24 (0, 0)) := by have := heap_alloc_new (w.alloc (.cells #[.slice none 0 0] 24)) (.cells #[.slice none 0 0] 24); rwa [World.size_alloc] at this
  have r0 : ((w.alloc (.cells #[.slice none 0 0] 24)).alloc (.cells #[.slice none 0 0] 24)).heap[w.heap.size]? = some (.cells #[.slice none 0 0] 24 (0, 0)) := rowKeep (heap_alloc_new w _) (below_new _ _)
  have f1 : Fr R (R + 1) w ((w.alloc (.cells #[.slice none 0 0] 24)).alloc (.cells #[.slice none 0 0] 24)) := ((Fr.refl _ _ _).alloc _).alloc _
  have zz : w.heap.size + 1 + 1 = ((w.alloc (.cells #[.slice none 0 0] 24)).alloc (.cells #[.slice none 0 0] 24)).heap.size := by simp
  go_enter Try.func33, Try.ntmps33
  go_wp2_with fail
  generalize ((w.alloc (.cells #[.slice none 0 0] 24)).alloc (.cells #[.slice none 0 0] 24)) = W at *
  refine (pick_any _ _ _ _ h1 (by omega)).mono ?_
  rintro e w2 ⟨k0, rfl, hk0, hr2, hf2, hs2⟩
  have z2 : w.heap.size + 1 + 1 ≤ w2.heap.size := by omega
  replace r0 := rowFr r0 hf2 (.inr (by omega))
  replace r1 := rowFr r1 hf2 (.inr (by omega))
  replace f1 := f1.trans hf2
  clear hf2 hs2 h1 zz
  go_wp2_with fail
  refine (pick_any _ _ _ _ hr2 (by omega)).mono ?_
  rintro e w3 ⟨k1, rfl, hk1, hr3, hf3, hs3⟩
  have z3 : w.heap.size + 1 + 1 ≤ w3.heap.size := by omega
  replace r0 := rowFr r0 hf3 (.inr (by omega))
  replace r1 := rowFr r1 hf3 (.inr (by omega))
  replace f1 := f1.trans hf3
  have hj : 0 ≤ k1 ∧ k1 ≤ 7 := by omega
  have hst : AtTags w w3 R p k1 := ⟨none, 0, [], p + 1 + 1, ⟨r0, r1⟩, Own.nil _ _ _ _ _, by simp; omega, by omega, hr3, f1⟩
  clear hf3 hs3 hk1 hr2 hr3 r0 r1 f1 z3 z2
  go_wp2_with fail
  go_loopw [7] (fun i wr => ∃ (j : Int), (0 ≤ j ∧ j ≤ 7) ∧ i = .int .i64 j ∧ AtTags w wr R p j) (fun i _ => (intOf i).toNat)
  case atStart => exact ⟨k1, hj, rfl, hst⟩
  case round =>
    clear hst
    obtain ⟨j, hj, rfl, A, c, d, q, ⟨r0, r1⟩, ho, hdj, hq, hr, hf⟩ := hrel
    have hcap := ho.cap
    have s0 := hf.size
    have s1 := rowLt r1
    have c1 := cells1 r1
    by_cases hj0 : 0 < j
    · have hend : ∀ (v : Bool) (q' : Nat) (A2 : Option Addr) (c2 : Nat) (w9 : World), (q ≤ q' ∧ q' ≤ q + 1) → w9.heap[w.heap.size]? = some (.cells #[.slice none 0 0] 24 (0, 0)) → w9.heap[w.heap.size + 1]? = some (.cells #[.slice A (List.length d) c] 24 (0, 0)) → Own w9 (w.heap.size + 1 + 1) w9.heap.size 4 1 A2 (d.length + 1) c2 (bools d ++ [.bool v]) → Rd w9 R q' → Fr R (R + 1) w w9 → AtTags w (w9.setCell ⟨w.heap.size + 1, 0, none⟩ (.slice A2 (d.length + 1) c2)) R p (j - 1) := by
        intro v q' A2 c2 w9 hq' k0 k1 o9 rd9 f9
        refine ⟨A2, c2, d ++ [v], q', ⟨rowSet k0 _ _ (by simp), by rw [List.length_append]; exact set1 k1 _⟩, ?_, by rw [List.length_append]; simp; omega, by omega, rd9.keep fun k hk => heap_setCell_other _ _ _ _ (by simp; omega), ?_⟩
        · rw [List.length_append, show bools (d ++ [v]) = bools d ++ [.bool v] by simp [bools]]
          exact (o9.setOther _ _ (.inl (by simp))).wide (Nat.le_refl _) (by simp)
        · exact ⟨f9.os, f9.tape, f9.output, by rw [World.size_setCell]; exact f9.size, fun k hk hh => (heap_setCell_other _ _ _ _ (by simp; omega)).trans (f9.block k hk hh)⟩
      have HEND := Lib.hid hend
      clear hend
      by_cases hk00 : k0 = 0
      · subst hk00
        have h8 := (ho.below (below_new wr (.cells #[.bool true] 4))).drewN 1
        have h9 := (Sees.one wr 4 (.bool true)).drewN 1
        have g9 := below_drewN (below_new wr (.cells #[.bool true] 4)) 1
        go_upto_region 6 with fail
        first | (go_region_law (first | (refine step_app (by rfl) (.tmp 18) (.tmp 26) _ (by rfl) 4 i0 (.bool false) 1 1 Try.underlying22 hi0 hz0 hz1 hz2 rfl (by decide) _ _ _ _ _ _ (by rfl) h8 _ _ _ _ _ (by rfl) h9 (one_bool _) (by omega) (by omega) (by simp; omega) ?_; intro A2 c2 w5 o5 f5; have r05 := rowFr (rowKeep r0 g9) f5 (.inl (by omega)); have r15 := rowFr (rowKeep r1 g9) f5 (.inl (by omega)); have F5 := fr_later hf g9 f5 (by omega); have hr5 := (hr.below g9).fr f5 (by omega); have c15 := cells1 r15; have z15 := frzRow r15 0; have HN := Lib.hid (HEND.out true q A2 c2 w5 (by omega) r05 r15 o5 hr5 F5); clear c1) | fail)) | fail
        all_goals
          go_wp2_with fail
          go_roundw
          case rel => exact ⟨j - 1, by omega, by go_num, HN.out⟩
          case measure => simp [intOf]; omega
      · have hkb : (k0 == 0) = false := beq_eq_false_iff_ne.2 hk00
        go_upto_region 6 with fail
        first | (go_region_law (first | (go_simp; go_at_call 36; refine (pick_any R q 2 _ (hr.drewN 1) (by omega)).mono ?_; rintro e w4 ⟨k4, rfl, hk4, hr4, hf4, hs4⟩; have s4 : w4.heap.size ≤ wr.heap.size ∧ wr.heap.size ≤ w4.heap.size := ⟨Nat.le_of_eq hs4, Nat.le_of_eq hs4.symm⟩; clear hs4; have r04 := rowFr (w := wr.drewN 1) r0 hf4 (.inr (by omega)); have r14 := rowFr (w := wr.drewN 1) r1 hf4 (.inr (by omega)); have c14 := cells1 r14; have ho4 := (ho.drewN 1).fr hf4 (by omega); have F4 := (hf.drewN 1).trans hf4; have h8 := ho4.below (below_new w4 (.cells #[.bool (k4 == 0)] 4)); have h9 := Sees.one w4 4 (.bool (k4 == 0)); have g9 := below_new w4 (.cells #[.bool (k4 == 0)] 4); have c24 := cells1 (rowKeep r14 g9)) | (refine step_app (by rfl) (.tmp 18) (.tmp 26) _ (by rfl) 4 i0 (.bool false) 1 1 Try.underlying22 hi0 hz0 hz1 hz2 rfl (by decide) _ _ _ _ _ _ (by rfl) h8 _ _ _ _ _ (by rfl) h9 (one_bool _) (by omega) (by omega) (by simp; omega) ?_; intro A2 c2 w5 o5 f5; have r05 := rowFr (rowKeep r04 g9) f5 (.inl (by omega)); have r15 := rowFr (rowKeep r14 g9) f5 (.inl (by omega)); have F5 := fr_later F4 g9 f5 (by omega); have hr5 := (hr4.below g9).fr f5 (by omega); have c15 := cells1 r15; have z15 := frzRow r15 0; have HN := Lib.hid (HEND.out (k4 == 0) (q + 1) A2 c2 w5 (by omega) r05 r15 o5 hr5 F5); clear c1) | fail)) | fail
        all_goals
          go_wp2_with fail
          go_roundw
          case rel => exact ⟨j - 1, by omega, by go_num, HN.out⟩
          case measure => simp [intOf]; omega
    · go_wp2_with fail
      refine (odd_any _ _ _ _ hr (by omega) hm1 hm2).mono ?_
      rintro e w4 ⟨b, q4, rfl, hq4, hr4, hf4, hs4⟩
      have s4 : wr.heap.size ≤ w4.heap.size := Nat.le_of_eq hs4.symm
      replace r0 := rowFr r0 hf4 (.inr (by omega))
      replace r1 := rowFr r1 hf4 (.inr (by omega))
      replace ho := ho.fr hf4 (.inr (by omega))
      replace hf := hf.trans hf4
      clear c1 hf4 hs4 hr
      have c0 := cells1 r0
      have z0 := frzRow r0 0
      have c1 := cells1 r1
      have z1 := frzRow r1 0
      have hrs : ∀ (u v : Value), Rd ((w4.setCell ⟨w.heap.size + 1, 0, none⟩ u).setCell ⟨w.heap.size, 0, none⟩ v) R q4 := fun u v => hr4.keep fun k hk => (heap_setCell_other _ _ _ _ (by simp; omega)).trans (heap_setCell_other _ _ _ _ (by simp; omega))
      cases b with
      | false =>
        have k0 := cells1 (set1 r0 (.slice A d.length c))
        go_wp2_with fail
        refine bodyPost_ret (v := .agg #[.slice A d.length c]) (by simp [results, Try.results33, go_sem, k0]) rfl ?_
        exact ⟨A, c, d, q4, rfl, ⟨((ho.setOther ⟨w.heap.size, 0, none⟩ _ (.inl (by simp <;> omega))).wide (by omega) (by simp <;> omega)), by omega⟩, by omega, hr4.keep fun k hk => heap_setCell_other _ _ _ _ (by simp; omega), fr_setc hf (by simp <;> omega) _⟩
      | true =>
        go_wp2_with fail
        refine (pick_any _ _ _ _ hr4 (by omega)).mono ?_
        rintro e w5 ⟨k5, rfl, hk5, hr5, hf5, hs5⟩
        have s5 : w4.heap.size ≤ w5.heap.size := Nat.le_of_eq hs5.symm
        replace r0 := rowFr r0 hf5 (.inr (by omega))
        replace r1 := rowFr r1 hf5 (.inr (by omega))
        replace hf := hf.trans hf5
        clear c0 c1 z0 z1 hf5 hs5 hr4 hrs ho
        have c0 := cells1 r0
        have z0 := frzRow r0 0
        have c1 := cells1 r1
        have z1 := frzRow r1 0
        obtain ⟨t, rfl⟩ := Int.eq_ofNat_of_zero_le hk5.1
        have ht : t = 0 ∨ t = 1 := by omega
        clear hk5
        rcases ht with rfl | rfl
        · have hmk := run_make_row' (P := Try.prog) 22 4 (.bool false) 1 Try.underlying22 bool_info rfl .i64 .i64 16 (by omega) (by omega)
          rw [show ((16 : Nat) : Int) = 16 from rfl] at hmk
          have gw := below_new w5 (.cells (madeCells #[.bool false] 16) 4)
          have own := Own.made (w := w5) (e := 4) (cur := madeCells #[.bool false] 16) (s := 1) (n := 16) (c := 16) (xs := bools (List.replicate 16 false)) (lo := w.heap.size + 1 + 1) (hi := w5.heap.size + 1) (by simp [size_madeCells]) (Nat.le_refl _) (by omega) (by rw [falses]; exact List.take_of_length_le (by simp [bools])) (by omega) (by omega)
          have a1 := rowKeep r1 gw
          have a0 := rowKeep r0 gw
          have F6 := hf.alloc (.cells (madeCells #[.bool false] 16) 4)
          have hr6 := hr5.alloc (.cells (madeCells #[.bool false] 16) 4)
          have z6 : w5.heap.size + 1 = (w5.alloc (.cells (madeCells #[.bool false] 16) 4)).heap.size := by simp
          have b1 := cells1 a1
          have d1 := frzRow a1 0
          go_upto_region 9 with fail
          generalize (w5.alloc (.cells (madeCells #[.bool false] 16) 4)) = W6 at *
          clear hmk c0 c1 z0 z1 b1 d1
          have c0 := cells1 a0
          have z0 := frzRow a0 0
          have c1 := cells1 (set1 a1 (.slice (some ⟨w5.heap.size, 0, none⟩) 16 16))
          have e0 := cells1 (rowSet a0 ⟨w.heap.size + 1, 0, none⟩ (.slice (some ⟨w5.heap.size, 0, none⟩) 16 16) (by simp))
          have e1 := frzRow (rowSet a0 ⟨w.heap.size + 1, 0, none⟩ (.slice (some ⟨w5.heap.size, 0, none⟩) 16 16) (by simp)) 0
          have k0 := cells1 (set1 (rowSet a0 ⟨w.heap.size + 1, 0, none⟩ (.slice (some ⟨w5.heap.size, 0, none⟩) 16 16) (by simp)) (.slice (some ⟨w5.heap.size, 0, none⟩) 16 16))
          go_wp2_with fail
          refine bodyPost_ret (v := .agg #[(.slice (some ⟨w5.heap.size, 0, none⟩) 16 16)]) (by simp [results, Try.results33, go_sem, k0]) rfl ?_
          refine ⟨_, 16, List.replicate 16 false, q4 + 1, rfl, ⟨(((own.setOther ⟨w.heap.size + 1, 0, none⟩ _ (.inl (by simp))).setOther ⟨w.heap.size, 0, none⟩ _ (.inl (by simp <;> omega))).wide (by omega) (by simp; omega)), by simp⟩, by omega, hr6.keep fun k hk => (heap_setCell_other _ _ _ _ (by simp; omega)).trans (heap_setCell_other _ _ _ _ (by simp; omega)), fr_setc (fr_setc F6 (by simp) _) (by simp) _⟩
        · have hmk := run_make_row' (P := Try.prog) 22 4 (.bool false) 1 Try.underlying22 bool_info rfl .i64 .i64 17 (by omega) (by omega)
          rw [show ((17 : Nat) : Int) = 17 from rfl] at hmk
          have gw := below_new w5 (.cells (madeCells #[.bool false] 17) 4)
          have own := Own.made (w := w5) (e := 4) (cur := madeCells #[.bool false] 17) (s := 1) (n := 17) (c := 17) (xs := bools (List.replicate 17 false)) (lo := w.heap.size + 1 + 1) (hi := w5.heap.size + 1) (by simp [size_madeCells]) (Nat.le_refl _) (by omega) (by rw [falses]; exact List.take_of_length_le (by simp [bools])) (by omega) (by omega)
          have a1 := rowKeep r1 gw
          have a0 := rowKeep r0 gw
          have F6 := hf.alloc (.cells (madeCells #[.bool false] 17) 4)
          have hr6 := hr5.alloc (.cells (madeCells #[.bool false] 17) 4)
          have z6 : w5.heap.size + 1 = (w5.alloc (.cells (madeCells #[.bool false] 17) 4)).heap.size := by simp
          have b1 := cells1 a1
          have d1 := frzRow a1 0
          go_upto_region 9 with fail
          generalize (w5.alloc (.cells (madeCells #[.bool false] 17) 4)) = W6 at *
          clear hmk c0 c1 z0 z1 b1 d1
          have c0 := cells1 a0
          have z0 := frzRow a0 0
          have c1 := cells1 (set1 a1 (.slice (some ⟨w5.heap.size, 0, none⟩) 17 17))
          have e0 := cells1 (rowSet a0 ⟨w.heap.size + 1, 0, none⟩ (.slice (some ⟨w5.heap.size, 0, none⟩) 17 17) (by simp))
          have e1 := frzRow (rowSet a0 ⟨w.heap.size + 1, 0, none⟩ (.slice (some ⟨w5.heap.size, 0, none⟩) 17 17) (by simp)) 0
          have k0 := cells1 (set1 (rowSet a0 ⟨w.heap.size + 1, 0, none⟩ (.slice (some ⟨w5.heap.size, 0, none⟩) 17 17) (by simp)) (.slice (some ⟨w5.heap.size, 0, none⟩) 17 17))
          go_wp2_with fail
          refine bodyPost_ret (v := .agg #[(.slice (some ⟨w5.heap.size, 0, none⟩) 17 17)]) (by simp [results, Try.results33, go_sem, k0]) rfl ?_
          refine ⟨_, 17, List.replicate 17 false, q4 + 1, rfl, ⟨(((own.setOther ⟨w.heap.size + 1, 0, none⟩ _ (.inl (by simp))).setOther ⟨w.heap.size, 0, none⟩ _ (.inl (by simp <;> omega))).wide (by omega) (by simp; omega)), by simp⟩, by omega, hr6.keep fun k hk => (heap_setCell_other _ _ _ _ (by simp; omega)).trans (heap_setCell_other _ _ _ _ (by simp; omega)), fr_setc (fr_setc F6 (by simp) _) (by simp) _⟩
end Go.Proofs.Ytophfpdcbkhifaa
