/-
  Walks: executed and ExecuteCommand of the program.
-/
import Derived.Test.YthnebfcclkebeaaC5
namespace Go.Proofs.Ythnebfcclkebeaa
open Go.RowKit

theorem executed_any (A : Option Addr) (c B : Nat) (d : List Int) (cm : Cmd) (w : World) (h : Sees w B 1 A d.length c (ints d)) (hB : B ≤ w.heap.size) (hc : cval cm d.length = true) :
    Calls Try.prog 51 #[.slice A d.length c, cmdV cm] w (RetPair w (xdisk d cm) (xread d cm)) := by
  have hc1 := h.cap
  have hc2 := h.big
  obtain ⟨k, p, m, v⟩ := cm
  have hsee0 := h.below ((Below.refl B w).alloc hB (.cells #[.int .i64 k, .int .i64 p, .int .i64 m, .int .i64 v] 55)) (Nat.le_refl _)
  simp only [cmdV]
  have hcv := (cval_iff _ _).1 hc
  simp only at hcv
  obtain ⟨p, rfl⟩ := Int.eq_ofNat_of_zero_le (show 0 ≤ p by omega)
  obtain ⟨m, rfl⟩ := Int.eq_ofNat_of_zero_le (show 0 ≤ m by omega)
  have hpm : p + m ≤ d.length := by omega
  go_enter Try.func51, Try.ntmps51
  go_wp2_with fail
  refine (clone_any _ _ _ _ _ _ hsee0 (ints_one _) (by simp; omega) (by omega)).mono ?_
  rintro e w1 ⟨A1, c1, rfl, o1, b1⟩
  have r1 := keepRow (heap_alloc_new w _) b1
  have hB1 := below_later (below_new w _) b1 (by simp)
  have hs1 := hB1.size
  have hsee1 := h.below hB1 hB
  have z1 := b1.size
  have o1' := o1.wide (show w.heap.size ≤ _ by simp) (Nat.le_refl _)
  rw [World.size_alloc] at z1 o1
  obtain ⟨m0, m1, m2, m3⟩ := cells4 r1
  clear b1 hsee0
  by_cases hk : k = 1
  · subst hk
    have hx : xread d ⟨1, p, m, v⟩ = (d.drop p).take m := by simp [xread]
    have hsub := hsee1.sub p m (by omega)
    rw [ints_sub, Nat.mul_one, ← hx] at hsub
    have hcp : ¬ c = p := by omega
    clear hx
    go_wp2_with fail
    refine (clone_any _ _ _ _ _ _ hsub (ints_one _) (by omega) (by omega)).mono ?_
    rintro e w2 ⟨A2, c2, rfl, o2, b2⟩
    go_wp2_with fail
    refine bodyPost_ret (results_tmp2 rfl _ _ _) rfl ?_
    rw [xdisk_same d _ (.inl rfl)]
    exact RetPair.of (o1'.below b2) o2 (by omega) b2.size (Nat.le_refl _) (below_later hB1 b2 (Nat.le_refl _))
  · by_cases h4 : k = 4
    · subst h4
      go_wp2_with fail
      refine bodyPost_ret (results_tmp2 rfl _ _ _) rfl ?_
      rw [xdisk_same d _ (.inr rfl), xread_w d ⟨4, p, m, v⟩ hk]
      exact RetPair.of o1' (Own.nil _ _ w1.heap.size _ _) hs1 (Nat.le_refl _) (Nat.le_refl _) hB1
    · have hk1 : (k == 1) = false := beq_eq_false_iff_ne.2 hk
      have hx : xdisk d ⟨k, p, m, v⟩ = spl d (List.replicate m v) p m := by
        unfold xdisk spl
        simp only
        rw [if_pos (by omega), List.take_of_length_le (l := List.replicate m v) (by simp), Int.toNat_natCast, Int.toNat_natCast]
      have HX := Lib.hid (And.intro hx (xread_w d ⟨k, p, m, v⟩ hk))
      clear hx
      obtain ⟨g, rfl, hg1, hg2, hg3⟩ := o1.head (by omega)
      have HS := Lib.hid (fun i => spl_length d (List.replicate m v) p i)
      have hk23 : (k == 2) = true ∨ ((k == 2) = false ∧ (k == 3) = true) := by simp only [beq_iff_eq, beq_eq_false_iff_ne]; omega
      have hm1 : 1 ≤ m := by omega
      clear hcv hk h4 hc o1'
      rcases hk23 with h2 | ⟨h2, h3⟩
      all_goals
        go_wp2_with fail
        go_loopw [30] (fun i wr => ∃ (j : Nat), j ≤ m ∧ i = .int .i64 j ∧ Own wr (w.heap.size + 1) w1.heap.size 3 1 (some ⟨g, 0, none⟩) d.length c1 (ints (spl d (List.replicate m v) p j)) ∧ Fr (w.heap.size + 1) w1.heap.size w1 wr) (fun i _ => m - (intOf i).toNat)
        case atStart => exact ⟨0, Nat.zero_le _, rfl, by rw [spl_zero]; exact o1, Fr.refl _ _ _⟩
        case round =>
          obtain ⟨j, hj, rfl, ho, hf⟩ := hrel
          have r0 := (hf.block w.heap.size (by omega) (.inl (by omega))).trans r1
          clear m0 m1 m2 m3
          obtain ⟨m0, m1, m2, m3⟩ := cells4 r0
          by_cases hlt : j < m
          · have hsl : (spl d (List.replicate m v) p j).length = d.length := HS.out j (by omega) (by simp; omega)
            have hfz := ho.frozen rfl (p + j)
            have hx := ho.cell rfl (p + j) _ (ints_get _ (p + j) (by omega))
            have ho2 := ho.set rfl (p + j) (.int .i64 v)
            have hst := spl_step d (List.replicate m v) p j (by omega) (by simpa using hlt)
            rw [List.getElem_replicate] at hst
            rw [ints_set, hst] at ho2
            have hf2 := hf.set hg1 hg2 (p + j) (.int .i64 v)
            generalize (spl d (List.replicate m v) p j)[p + j]'(by omega) = old at hx
            clear hst hsl ho
            go_wp2
            go_roundw
            case rel => exact ⟨j + 1, by omega, by go_num, ho2, hf2⟩
            case measure => simp [intOf]; omega
          · obtain rfl : j = m := by omega
            have hB2 := hf.below hB1 (by omega) (Nat.le_refl _)
            have sz := hf.size
            go_wp2_with fail
            refine bodyPost_ret (results_tmp2 rfl _ _ _) rfl ?_
            rw [HX.out.1, HX.out.2]
            exact RetPair.of (ho.wide (by omega) sz) (Own.nil _ _ wr.heap.size _ _) (by omega) (Nat.le_refl _) (Nat.le_refl _) hB2
end Go.Proofs.Ythnebfcclkebeaa
