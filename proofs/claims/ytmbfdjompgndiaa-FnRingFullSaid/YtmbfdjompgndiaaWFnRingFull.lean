/-
  Walk: the law FnRingFull returns true.
-/
import Derived.Test.YtmbfdjompgndiaaR10
import Derived.Test.YtmbfdjompgndiaaS3
import Derived.Test.YtmbfdjompgndiaaA
namespace Go.Proofs.Ytmbfdjompgndiaa
open Go.RowKit
set_option linter.unusedSimpArgs false
set_option linter.unusedVariables false
set_option maxHeartbeats 40000000 in
theorem law_FnRingFull (w : World) (A : Option Addr) (n c : Nat) (bs : List Int) (h : Sees w w.heap.size 1 A n c (byts bs)) (hb : ∀ v ∈ bs, 0 ≤ v ∧ v ≤ 255) :
    Calls Try.prog 9 #[.slice A n c] w (RetPure w (.bool true)) := by
  have hc1 := h.cap
  have hc2 := h.big
  by_cases hn : 1048576 < n
  · go_enter Try.func9, Try.ntmps9
    go_wp2_with fail
    go_ret
    exact ⟨rfl, Below.refl _ _⟩
  have hB : Below w.heap.size w w := Below.refl _ _
  go_enter Try.func9, Try.ntmps9
  go_wp2_with fail
  refine (drawRingCount_any _ _ _ _ _ _ h (Nat.le_refl _) hb).mono ?_
  rintro e w1 ⟨At, ct, d, hd, tl, rfl, ⟨ot, hdl⟩, ⟨hb1, hb2⟩, b1⟩
  have s1 := b1.size
  replace hB := below_later hB b1 (Nat.le_refl _)
  clear b1
  clear h hb
  have hc3 := ot.cap
  have hc4 := ot.big
  have hn2 := below_new w1 (.cells #[.slice At d.length ct, .int .i64 hd, .int .i64 tl] 27)
  replace ot := ot.below hn2
  replace hB := below_later hB hn2 (Nat.le_refl _)
  clear hn2
  have rt : (w1.alloc (.cells #[.slice At d.length ct, .int .i64 hd, .int .i64 tl] 27)).heap[w1.heap.size]? = some (.cells #[.slice At d.length ct, .int .i64 hd, .int .i64 tl] 27 (0, 0)) := heap_alloc_new _ _
  obtain ⟨mt0, mt1, mt2⟩ := cells3 rt
  have s2 : w1.heap.size < (w1.alloc (.cells #[.slice At d.length ct, .int .i64 hd, .int .i64 tl] 27)).heap.size := by rw [World.size_alloc]; exact Nat.lt_succ_self _
  cases hv : rval ⟨d, hd, tl⟩
  · have HR := Lib.hid (show rcount ⟨d, hd, tl⟩ = -1 by unfold rcount; rw [if_neg (by simp [hv])])
    clear hv
    go_wp2_with fail
    generalize (w1.alloc (.cells #[.slice At d.length ct, .int .i64 hd, .int .i64 tl] 27)) = u2 at *
    refine (implRingCount_any At d.length ct _ d hd tl _ ot.sees (by omega)).mono ?_
    rw [HR.out]
    rintro e w3 ⟨rfl, b3⟩
    have s3 := b3.size
    replace ot := ot.below b3
    replace rt := rowKeep rt b3
    clear mt0 mt1 mt2
    obtain ⟨mt0, mt1, mt2⟩ := cells3 rt
    replace hB := below_later hB b3 (Nat.le_refl _)
    clear b3
    go_wp2_with fail
    refine (specRingCount_any At d.length ct _ d hd tl _ ot.sees (by omega)).mono ?_
    rw [HR.out]
    rintro e w4 ⟨rfl, b4⟩
    have s4 := b4.size
    replace ot := ot.below b4
    replace rt := rowKeep rt b4
    clear mt0 mt1 mt2
    obtain ⟨mt0, mt1, mt2⟩ := cells3 rt
    replace hB := below_later hB b4 (Nat.le_refl _)
    clear b4
    go_wp2_with fail
    refine (alive_any _).mono ?_
    rintro e w5 ⟨rfl, b5⟩
    have s5 := b5.size
    replace ot := ot.below b5
    replace rt := rowKeep rt b5
    clear mt0 mt1 mt2
    obtain ⟨mt0, mt1, mt2⟩ := cells3 rt
    replace hB := below_later hB b5 (Nat.le_refl _)
    clear b5
    go_wp2_with fail
    go_ret
    exact ⟨rfl, hB⟩
  · obtain ⟨m, hm⟩ : ∃ m : Nat, (m : Int) = rcn ⟨d, hd, tl⟩ := ⟨(rcn ⟨d, hd, tl⟩).toNat, by have := rcn_bd _ hv; omega⟩
    have hmb := rcn_bd _ hv
    simp only at hmb
    have hml : m < d.length := by omega
    have hv' := (rval_iff _).1 hv
    simp only at hv'
    have HR := Lib.hid (show rcount ⟨d, hd, tl⟩ = (m : Int) by unfold rcount; rw [if_pos hv, hm])
    have HM := Lib.hid hm
    have HV := Lib.hid hv
    clear hmb hm
    go_wp2_with fail
    generalize (w1.alloc (.cells #[.slice At d.length ct, .int .i64 hd, .int .i64 tl] 27)) = u2 at *
    refine (implRingCount_any At d.length ct _ d hd tl _ ot.sees (by omega)).mono ?_
    rw [HR.out]
    rintro e w3 ⟨rfl, b3⟩
    have s3 := b3.size
    replace ot := ot.below b3
    replace rt := rowKeep rt b3
    clear mt0 mt1 mt2
    obtain ⟨mt0, mt1, mt2⟩ := cells3 rt
    replace hB := below_later hB b3 (Nat.le_refl _)
    clear b3
    go_wp2_with fail
    refine (specRingCount_any At d.length ct _ d hd tl _ ot.sees (by omega)).mono ?_
    rw [HR.out]
    rintro e w4 ⟨rfl, b4⟩
    have s4 := b4.size
    replace ot := ot.below b4
    replace rt := rowKeep rt b4
    clear mt0 mt1 mt2
    obtain ⟨mt0, mt1, mt2⟩ := cells3 rt
    replace hB := below_later hB b4 (Nat.le_refl _)
    clear b4
    go_wp2_with fail
    have hD : d.length ≤ 16 := hv'.1.2
    have hst : AtBox w w4 (w1.heap.size) At ct d hd tl _ _ := ⟨rt, ot, .inl (by omega), by omega, hB, by omega, by omega⟩
    generalize hDD : d.length = D at *
    go_loopw [5] (fun i wr => ∃ j : Nat, m + j + 1 ≤ D ∧ i = .int .i64 j ∧ ∃ A c d hd tl lo hi, AtBox w wr (w1.heap.size) A c d hd tl lo hi ∧ rval ⟨d, hd, tl⟩ = true ∧ rcn ⟨d, hd, tl⟩ = (m : Int) + (j : Int) ∧ d.length = D) (fun i _ => D - (intOf i).toNat)
    case atStart => exact ⟨0, by omega, rfl, At, ct, d, hd, tl, _, _, hst, HV.out, by have := HM.out; omega, hDD⟩
    case round =>
      clear hst rt mt0 mt1 mt2 ot hB hDD HR HM HV hv'
      obtain ⟨j, hj, rfl, A1, c1, d1, h1, t1, lo, hi, sb, hv1, hn1, hD1⟩ := hrel
      obtain ⟨mt0, mt1, mt2⟩ := cells3 sb.row
      have sw := sb.bel.size
      have hin := sb.in_
      have q := implRingPush_any A1 d1.length c1 _ d1 h1 t1 (j : Int) wr sb.own.sees sb.hi_
      have e0 : IntKind.i64.wrap ((j : Int) + 1) = (j : Int) + 1 := IntWalk.i64_in _ (by omega)
      by_cases hjm : m + j + 1 < D
      · obtain ⟨d2, h2, t2, hp, ho, hv2, hn2, hl2⟩ := rpush_more ⟨d1, h1, t1⟩ (j : Int) hv1 (by rw [hn1]; show _ < (d1.length : Int); omega)
        have HL2 := Lib.hid (hl2.trans hD1)
        have HN2 := Lib.hid (show rcn ⟨d2, h2, t2⟩ = (m : Int) + ((j + 1 : Nat) : Int) by rw [hn2, hn1]; omega)
        have HV2 := Lib.hid hv2
        clear hv2 hn2 hn1 hl2 hD1
        rw [hp, ho] at q
        unfold pushV ringV at q
        simp only at q
        clear hp ho hv1
        go_wp2_with fail
        refine q.mono ?_
        clear q
        rintro e w7 ⟨A2, c2, rfl, o2, b7⟩
        have s7 := b7.size
        have hn7 := below_new w7 (.cells #[.slice A2 d2.length c2, .int .i64 h2, .int .i64 t2] 27)
        have r2 := rowKeep (rowKeep sb.row b7) hn7
        have x2 : (w7.alloc (.cells #[.slice A2 d2.length c2, .int .i64 h2, .int .i64 t2] 27)).heap[w7.heap.size]? = some (.cells #[.slice A2 d2.length c2, .int .i64 h2, .int .i64 t2] 27 (0, 0)) := heap_alloc_new w7 _
        clear mt0 mt1 mt2
        obtain ⟨mt0, mt1, mt2⟩ := cells3 r2
        obtain ⟨f0, f1, f2⟩ := frz3 r2
        obtain ⟨n0, n1, n2⟩ := cells3 x2
        have HS := Lib.hid (sb.next (h2 := h2) (t2 := t2) b7 o2)
        clear r2 x2 sb hn7
        go_wp2_with fail
        go_roundw
        case rel => exact ⟨j + 1, by omega, by go_num, A2, c2, d2, h2, t2, _, _, HS.out, HV2.out, HN2.out, HL2.out⟩
        case measure => simp [intOf]; omega
      · have hp := rpush_last ⟨d1, h1, t1⟩ (j : Int) hv1 (by rw [hn1]; show _ = (d1.length : Int); omega)
        rw [hp.1, hp.2] at q
        unfold pushV ringV at q
        simp only at q
        have HC := Lib.hid (show rcount ⟨d1, h1, t1⟩ = (m : Int) + (j : Int) by rw [rcount_of _ hv1, hn1])
        have ot := sb.own
        have rt := sb.row
        have hB := sb.bel
        have hhi := sb.hi_
        have hoff := sb.off
        have e1 : IntKind.i64.wrap ((m : Int) + (j : Int)) = (m : Int) + (j : Int) := IntWalk.i64_in _ (by omega)
        have e2 : IntKind.i64.wrap ((d1.length : Int) - 1) = (d1.length : Int) - 1 := IntWalk.i64_in _ (by omega)
        have e3 : ((m : Int) + (j : Int) == (d1.length : Int) - 1) = true := beq_iff_eq.2 (by omega)
        clear hp hv1 hn1 sb hD1
        go_wp2_with fail
        refine q.mono ?_
        clear q
        rintro e w7 ⟨A2, c2, rfl, o2, b7⟩
        have s7 := b7.size
        replace ot := ot.below (b7.mono (by omega))
        replace rt := rowKeep rt b7
        replace hB := below_later hB b7 (by omega)
        clear mt0 mt1 mt2 b7 o2
        obtain ⟨mt0, mt1, mt2⟩ := cells3 rt
        have hn5 := below_new w7 (.cells #[.slice A2 d1.length c2, .int .i64 h1, .int .i64 t1] 27)
        replace ot := ot.below hn5
        replace rt := rowKeep rt hn5
        clear mt0 mt1 mt2
        obtain ⟨mt0, mt1, mt2⟩ := cells3 rt
        replace hB := below_later hB hn5 (Nat.le_refl _)
        clear hn5
        have rx : (w7.alloc (.cells #[.slice A2 d1.length c2, .int .i64 h1, .int .i64 t1] 27)).heap[w7.heap.size]? = some (.cells #[.slice A2 d1.length c2, .int .i64 h1, .int .i64 t1] 27 (0, 0)) := heap_alloc_new _ _
        obtain ⟨mx0, mx1, mx2⟩ := cells3 rx
        have s5 : w7.heap.size < (w7.alloc (.cells #[.slice A2 d1.length c2, .int .i64 h1, .int .i64 t1] 27)).heap.size := by rw [World.size_alloc]; exact Nat.lt_succ_self _
        go_wp2_with fail
        generalize (w7.alloc (.cells #[.slice A2 d1.length c2, .int .i64 h1, .int .i64 t1] 27)) = u5 at *
        clear rx mx0 mx1 mx2
        have hn6 : Below u5.heap.size u5 u5.drew := below_drewN (Below.refl _ _) 1
        have s6 : u5.heap.size ≤ u5.drew.heap.size := Nat.le_refl _
        replace ot := ot.below hn6
        replace rt := rowKeep rt hn6
        clear mt0 mt1 mt2
        obtain ⟨mt0, mt1, mt2⟩ := cells3 rt
        replace hB := below_later hB hn6 (Nat.le_refl _)
        clear hn6
        refine wp_region_noPanic ?_
        refine wp_region_held_drew (S := fun w' => w'.cell? ⟨w1.heap.size, 0, none⟩ = some (.slice A1 d1.length c1) ∧ w'.cell? ⟨w1.heap.size, 1, none⟩ = some (.int .i64 h1) ∧ w'.cell? ⟨w1.heap.size, 2, none⟩ = some (.int .i64 t1)) (by kernel_rfl) ⟨mt0, mt1, mt2⟩ (fun hHeld => ?_)
        generalize u5.drew = u6 at *
        refine wpAnyH_take (i := 0) (v := ?_) rfl (by kernel_rfl) (by kernel_rfl) (by kernel_rfl) (fun _ _ _ h => h) (Or.inl ⟨by rfl, ?_⟩) (by assumption) ?_
        rotate_left
        · (intro wz hSw; (try dsimp only at hSw); go_simp; try with_reducible rfl)
        simp only [Act.put, List.getElem_toArray, List.getElem_cons_zero, List.getElem_cons_succ, List.setIfInBounds_toArray, List.set_cons_zero, List.set_cons_succ]
        refine wpAnyH_take (i := 1) (v := ?_) rfl (by kernel_rfl) (by kernel_rfl) (by kernel_rfl) (fun _ _ _ h => h) (Or.inl ⟨by rfl, ?_⟩) (by assumption) ?_
        rotate_left
        · (intro wz hSw; (try dsimp only at hSw); go_simp; try with_reducible rfl)
        simp only [Act.put, List.getElem_toArray, List.getElem_cons_zero, List.getElem_cons_succ, List.setIfInBounds_toArray, List.set_cons_zero, List.set_cons_succ]
        refine wpAnyH_take (i := 2) (v := ?_) rfl (by kernel_rfl) (by kernel_rfl) (by kernel_rfl) (fun _ _ _ h => h) (Or.inl ⟨by rfl, ?_⟩) (by assumption) ?_
        rotate_left
        · (intro wz hSw; (try dsimp only at hSw); go_simp; try with_reducible rfl)
        simp only [Act.put, List.getElem_toArray, List.getElem_cons_zero, List.getElem_cons_succ, List.setIfInBounds_toArray, List.set_cons_zero, List.set_cons_succ]
        refine wpAnyH_take (i := 3) (v := ?_) rfl (by kernel_rfl) (by kernel_rfl) (by kernel_rfl) (fun _ _ _ h => h) (Or.inl ⟨by rfl, ?_⟩) (by assumption) ?_
        rotate_left
        · (intro wz hSw; (try dsimp only at hSw); go_simp; try with_reducible rfl)
        simp only [Act.put, List.getElem_toArray, List.getElem_cons_zero, List.getElem_cons_succ, List.setIfInBounds_toArray, List.set_cons_zero, List.set_cons_succ]
        refine wpAnyH_take (i := 4) (v := ?_) rfl (by kernel_rfl) (by kernel_rfl) (by kernel_rfl) (fun _ _ _ h => h) (Or.inl ⟨by rfl, ?_⟩) (by assumption) ?_
        rotate_left
        · (intro wz hSw; (try dsimp only at hSw); go_simp; try with_reducible rfl)
        simp only [Act.put, List.getElem_toArray, List.getElem_cons_zero, List.getElem_cons_succ, List.setIfInBounds_toArray, List.set_cons_zero, List.set_cons_succ]
        refine wpAnyH_take (i := 5) (v := ?_) rfl (by kernel_rfl) (by kernel_rfl) (by kernel_rfl) (fun _ _ _ h => h) (Or.inl ⟨by rfl, ?_⟩) (by assumption) ?_
        rotate_left
        · (intro wz hSw; (try dsimp only at hSw); go_simp; try with_reducible rfl)
        simp only [Act.put, List.getElem_toArray, List.getElem_cons_zero, List.getElem_cons_succ, List.setIfInBounds_toArray, List.set_cons_zero, List.set_cons_succ]
        refine wpAnyH_take (i := 6) (v := ?_) rfl (by kernel_rfl) (by kernel_rfl) (by kernel_rfl) (fun _ _ _ h => h) (Or.inl ⟨by rfl, ?_⟩) (by assumption) ?_
        rotate_left
        · (intro wz hSw; (try dsimp only at hSw); go_simp; try with_reducible rfl)
        simp only [Act.put, List.getElem_toArray, List.getElem_cons_zero, List.getElem_cons_succ, List.setIfInBounds_toArray, List.set_cons_zero, List.set_cons_succ]
        refine wpAnyH_take (i := 7) (v := ?_) rfl (by kernel_rfl) (by kernel_rfl) (by kernel_rfl) (fun _ _ _ h => h) (Or.inl ⟨by rfl, ?_⟩) (by assumption) ?_
        rotate_left
        · (intro wz hSw; (try dsimp only at hSw); go_simp; try with_reducible rfl)
        simp only [Act.put, List.getElem_toArray, List.getElem_cons_zero, List.getElem_cons_succ, List.setIfInBounds_toArray, List.set_cons_zero, List.set_cons_succ]
        refine wpAnyH_take (i := 8) (v := ?_) rfl (by kernel_rfl) (by kernel_rfl) (by kernel_rfl) (fun _ _ _ h => h) (Or.inl ⟨by rfl, ?_⟩) (by assumption) ?_
        rotate_left
        · (intro wz hSw; (try dsimp only at hSw); go_simp; try with_reducible rfl)
        simp only [Act.put, List.getElem_toArray, List.getElem_cons_zero, List.getElem_cons_succ, List.setIfInBounds_toArray, List.set_cons_zero, List.set_cons_succ]
        refine wpAnyH_take (i := 9) (v := ?_) rfl (by kernel_rfl) (by kernel_rfl) (by kernel_rfl) (fun _ _ _ h => h) (Or.inl ⟨by rfl, ?_⟩) (by assumption) ?_
        rotate_left
        · (intro wz hSw; (try dsimp only at hSw); go_simp; try with_reducible rfl)
        simp only [Act.put, List.getElem_toArray, List.getElem_cons_zero, List.getElem_cons_succ, List.setIfInBounds_toArray, List.set_cons_zero, List.set_cons_succ]
        refine wpAnyH_take (i := 11) (v := ?_) rfl (by kernel_rfl) (by kernel_rfl) (by kernel_rfl) (fun _ _ _ h => h) (Or.inl ⟨by rfl, ?_⟩) (by assumption) ?_
        rotate_left
        · (intro wz hSw; (try dsimp only at hSw); go_simp; try with_reducible rfl)
        simp only [Act.put, List.getElem_toArray, List.getElem_cons_zero, List.getElem_cons_succ, List.setIfInBounds_toArray, List.set_cons_zero, List.set_cons_succ]
        refine wpAnyH_take (i := 12) (v := ?_) rfl (by kernel_rfl) (by kernel_rfl) (by kernel_rfl) (fun _ _ _ h => h) (Or.inl ⟨by rfl, ?_⟩) (by assumption) ?_
        rotate_left
        · (intro wz hSw; (try dsimp only at hSw); go_simp; try with_reducible rfl)
        simp only [Act.put, List.getElem_toArray, List.getElem_cons_zero, List.getElem_cons_succ, List.setIfInBounds_toArray, List.set_cons_zero, List.set_cons_succ]
        refine wpAnyH_take (i := 13) (v := ?_) rfl (by kernel_rfl) (by kernel_rfl) (by kernel_rfl) (fun _ _ _ h => h) (Or.inl ⟨by rfl, ?_⟩) (by assumption) ?_
        rotate_left
        · (intro wz hSw; (try dsimp only at hSw); go_simp; try with_reducible rfl)
        simp only [Act.put, List.getElem_toArray, List.getElem_cons_zero, List.getElem_cons_succ, List.setIfInBounds_toArray, List.set_cons_zero, List.set_cons_succ]
        refine wpAnyH_take (i := 14) (v := ?_) rfl (by kernel_rfl) (by kernel_rfl) (by kernel_rfl) (fun _ _ _ h => h) (Or.inl ⟨by rfl, ?_⟩) (by assumption) ?_
        rotate_left
        · (intro wz hSw; (try dsimp only at hSw); go_simp; try with_reducible rfl)
        simp only [Act.put, List.getElem_toArray, List.getElem_cons_zero, List.getElem_cons_succ, List.setIfInBounds_toArray, List.set_cons_zero, List.set_cons_succ]
        refine wpAnyH_ready (rs := [10]) (by kernel_rfl) (by simp) ?_
        refine AllReadyH.cons rfl (fun K hK => ?_) ?_
        · go_simp
          have q := implRingCount_any A1 d1.length c1 _ d1 h1 t1 _ ot.sees (by omega)
          rw [HC.out] at q
          refine q.mono ?_
          clear q
          rintro e w7 ⟨rfl, b7⟩
          have s7 := b7.size
          replace ot := ot.below b7
          replace rt := rowKeep rt b7
          clear mt0 mt1 mt2
          obtain ⟨mt0, mt1, mt2⟩ := cells3 rt
          replace hB := below_later hB b7 (Nat.le_refl _)
          clear b7
          refine hK.out _ _ ⟨mt0, mt1, mt2⟩ (fun hHeld => ?_)
          clear hK K
          try simp only [Act.put, List.getElem_toArray, List.getElem_cons_zero, List.getElem_cons_succ, List.setIfInBounds_toArray, List.set_cons_zero, List.set_cons_succ]
          refine wpAnyH_take (i := 15) (v := ?_) rfl (by kernel_rfl) (by kernel_rfl) (by kernel_rfl) (fun _ _ _ h => h) (Or.inl ⟨by rfl, ?_⟩) (by assumption) ?_
          rotate_left
          · (intro wz hSw; (try dsimp only at hSw); go_simp; try with_reducible rfl)
          simp only [Act.put, List.getElem_toArray, List.getElem_cons_zero, List.getElem_cons_succ, List.setIfInBounds_toArray, List.set_cons_zero, List.set_cons_succ]
          refine wpAnyH_take (i := 16) (v := ?_) rfl (by kernel_rfl) (by kernel_rfl) (by kernel_rfl) (fun _ _ _ h => h) (Or.inl ⟨by rfl, ?_⟩) (by assumption) ?_
          rotate_left
          · (intro wz hSw; (try dsimp only at hSw); go_simp; try with_reducible rfl)
          simp only [Act.put, List.getElem_toArray, List.getElem_cons_zero, List.getElem_cons_succ, List.setIfInBounds_toArray, List.set_cons_zero, List.set_cons_succ]
          refine wpAnyH_take (i := 17) (v := ?_) rfl (by kernel_rfl) (by kernel_rfl) (by kernel_rfl) (fun _ _ _ h => h) (Or.inl ⟨by rfl, ?_⟩) (by assumption) ?_
          rotate_left
          · (intro wz hSw; (try dsimp only at hSw); go_simp; try with_reducible rfl)
          simp only [Act.put, List.getElem_toArray, List.getElem_cons_zero, List.getElem_cons_succ, List.setIfInBounds_toArray, List.set_cons_zero, List.set_cons_succ]
          refine wpAnyH_done (by kernel_rfl) ?_ _
          refine NoPanic.normal ?_
          go_wp2_with fail
          go_ret
          exact ⟨rfl, hB⟩
        exact AllReadyH.nil
end Go.Proofs.Ytmbfdjompgndiaa
