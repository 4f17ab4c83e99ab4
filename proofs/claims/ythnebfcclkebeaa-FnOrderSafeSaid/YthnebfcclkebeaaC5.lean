/-
  Walks: ExecuteCommand of the reference and of the program.
-/
import Derived.Test.YthnebfcclkebeaaC4
import Derived.Test.YthnebfcclkebeaaD5
namespace Go.Proofs.Ythnebfcclkebeaa
open Go.RowKit

/-- A call's end: two new slices, the first in older blocks than the second; nothing that was there has changed. -/
def RetPair (w : World) (xs ys : List Int) (en : Ending) (w' : World) : Prop :=
  ∃ A c A' c' mid, en = .returned (.tuple #[.slice A xs.length c, .slice A' ys.length c']) ∧ Own w' w.heap.size mid 3 1 A xs.length c (ints xs) ∧ Own w' mid w'.heap.size 3 1 A' ys.length c' (ints ys) ∧ w.heap.size ≤ mid ∧ mid ≤ w'.heap.size ∧ Below w.heap.size w w'
theorem RetPair.of {w w' : World} {xs ys : List Int} {A A' : Option Addr} {n c n' c' mid hi : Nat} (o : Own w' w.heap.size mid 3 1 A n c (ints xs)) (o' : Own w' mid hi 3 1 A' n' c' (ints ys)) (h1 : w.heap.size ≤ mid) (h2 : mid ≤ hi) (h3 : hi ≤ w'.heap.size) (hB : Below w.heap.size w w') :
    RetPair w xs ys (.returned (.tuple #[.slice A n c, .slice A' n' c'])) w' := by
  obtain rfl := o.sees.int
  obtain rfl := o'.sees.int
  exact ⟨A, c, A', c', mid, rfl, o, o'.wide (Nat.le_refl _) h3, h1, by omega, hB⟩
theorem pair_empty {w W : World} (hB : Below w.heap.size w W) :
    RetPair w [] [] (.returned (.tuple #[.slice (some ⟨W.heap.size, 0, none⟩) 0 0, .slice (some ⟨W.heap.size + 1, 0, none⟩) 0 0])) ((W.alloc (.cells #[] 3)).alloc (.cells #[] 3)) :=
  ⟨_, _, _, _, W.heap.size + 1, rfl, ((empty_made W 3 1).below (below_new _ _)).wide hB.size (Nat.le_refl _), by have := empty_made (W.alloc (.cells #[] 3)) 3 1; rw [World.size_alloc] at this; exact this.wide (Nat.le_refl _) (by simp), by have := hB.size; omega, by simp, (hB.alloc hB.size _).alloc (by have := hB.size; simp; omega) _⟩
theorem specExecuteCommand_any (A : Option Addr) (n c B : Nat) (d : List Int) (cm : Cmd) (w : World) (h : Sees w B 1 A n c (ints d)) (hB : B ≤ w.heap.size) :
    Calls Try.prog 47 #[.slice A n c, cmdV cm] w (RetPair w (exD d cm) (exR d cm)) := by
  obtain rfl := h.int
  have hc1 := h.cap
  have hc2 := h.big
  obtain ⟨i0, hi0, hz0, hz1, hz2⟩ := info_parts int_info
  obtain ⟨k, p, m, v⟩ := cm
  have hsee0 := h.below ((Below.refl B w).alloc hB (.cells #[.int .i64 k, .int .i64 p, .int .i64 m, .int .i64 v] 55)) (Nat.le_refl _)
  simp only [cmdV]
  cases hd : dval d with
  | false =>
    rw [exD_no (by simp [hd]), exR_no (by simp [hd])]
    go_enter Try.func47, Try.ntmps47
    go_wp2_with fail
    refine (specDiskValid_any _ _ _ _ _ _ hsee0).mono ?_
    rw [hd]
    rintro e w' ⟨rfl, rfl⟩
    go_wp2_with fail
    refine bodyPost_ret (results_tmp2 rfl _ _ _) rfl ?_
    simpa using pair_empty (below_new w (.cells #[.int .i64 k, .int .i64 p, .int .i64 m, .int .i64 v] 55))
  | true =>
    cases hc : cval ⟨k, p, m, v⟩ d.length with
    | false =>
      rw [exD_no (by simp [hc]), exR_no (by simp [hc])]
      go_enter Try.func47, Try.ntmps47
      go_wp2_with fail
      refine (specDiskValid_any _ _ _ _ _ _ hsee0).mono ?_
      rw [hd]
      rintro e w' ⟨rfl, rfl⟩
      go_wp2_with fail
      refine (specCommandValid_any _ _ _ _ _ _ (by omega)).mono ?_
      rw [hc]
      rintro e w1 ⟨rfl, b1⟩
      go_wp2_with fail
      refine bodyPost_ret (results_tmp2 rfl _ _ _) rfl ?_
      exact pair_empty (below_later (below_new w _) b1 (by simp))
    | true =>
      rw [exD_of hd hc, exR_of hd hc]
      have hcv := (cval_iff _ _).1 hc
      simp only at hcv
      obtain ⟨p, rfl⟩ := Int.eq_ofNat_of_zero_le (show 0 ≤ p by omega)
      obtain ⟨m, rfl⟩ := Int.eq_ofNat_of_zero_le (show 0 ≤ m by omega)
      have hpm : p + m ≤ d.length := by omega
      go_enter Try.func47, Try.ntmps47
      go_wp2_with fail
      refine (specDiskValid_any _ _ _ _ _ _ hsee0).mono ?_
      rw [hd]
      rintro e w' ⟨rfl, rfl⟩
      go_wp2_with fail
      refine (specCommandValid_any _ _ _ _ _ _ (by omega)).mono ?_
      rw [hc]
      rintro e w1 ⟨rfl, b1⟩
      have r0 := keepRow (heap_alloc_new w _) b1
      have hB1 := below_later (below_new w _) b1 (by simp)
      have hs1 := hB1.size
      have hsee1 := h.below hB1 hB
      have z1 := b1.size
      rw [World.size_alloc] at z1
      clear b1 hsee0
      go_wp2_with (at_builtin; refine wpList_app _ rfl (.tmp 19) (.tmp 20) _ rfl 3 i0 (.int .i64 0) 1 8 Try.underlying22 hi0 hz0 hz1 hz2 rfl (by decide) w1.heap.size (w1.heap.size + 1) _ 0 0 [] rfl (empty_made w1 3 1) _ _ _ _ _ rfl (hsee1.below (below_new w1 (.cells #[] 3)) (by omega)) (ints_one _) (by omega) (by omega) (by simp) ?_; intro A2 c2 w2 o2 f2; simp only [Nat.zero_add, List.nil_append] at o2; have r2 := (f2.block w.heap.size (by simp; omega) (.inl (by omega))).trans (keepRow r0 (below_new w1 _)); obtain ⟨m0, m1, m2, m3⟩ := cells4 r2)
      refine (l2Do_any _ _ d ⟨k, p, m, v⟩ _ _ _ o2 hc (Nat.le_refl _)).mono ?_
      rintro e w3 ⟨rfl, o3, f3⟩
      have s2 := f2.size_alloc
      have s3 := f3.size
      have r3 := (f3.block w.heap.size (by omega) (.inl (by omega))).trans r2
      have hsee3 := ((hsee1.below (below_new w1 (.cells #[] 3)) (by omega)).fr f2 (by omega) (by rw [World.size_alloc]; omega)).fr f3 (by omega) (by omega)
      have hB3 := f3.below (f2.below (hB1.alloc hs1 (.cells #[] 3)) (by omega) (Nat.le_refl _)) (by omega) (Nat.le_refl _)
      obtain ⟨n0, n1, n2, n3⟩ := cells4 r3
      obtain ⟨l0, l1, l2, l3⟩ := cells4 (keepRow r3 (below_new w3 (.cells #[] 3)))
      have hE := empty_made w3 3 1
      have o3' := o3.below (below_new w3 (.cells #[] 3))
      clear m0 m1 m2 m3 r0 r2 hsee1 f2 f3 o2 hB1 r3
      by_cases hk : k = 1
      · subst hk
        have hx : xread d ⟨1, p, m, v⟩ = (d.drop p).take m := by simp [xread]
        have hsub := hsee3.sub p m (by omega)
        rw [ints_sub, Nat.mul_one, ← hx] at hsub
        have hcp : ¬ c = p := by omega
        have hsee : Sees w3 B 1 (Option.map (fun x => x.add p) A) (p + m - p) (c - p) (ints (xread d ⟨1, p, m, v⟩)) := by rw [Nat.add_sub_cancel_left]; exact hsub
        have hsee' := hsee.below (below_new w3 (.cells #[] 3)) (by omega)
        clear hx hsee hsub
        go_wp2_with (at_builtin; refine wpList_app _ rfl (.tmp 29) (.tmp 38) _ rfl 3 i0 (.int .i64 0) 1 8 Try.underlying22 hi0 hz0 hz1 hz2 rfl (by decide) w3.heap.size (w3.heap.size + 1) _ 0 0 [] rfl hE _ _ _ _ _ rfl hsee' (ints_one _) (by omega) (by omega) (by simp) ?_; intro A4 c4 w4 o4 f4; simp only [Nat.zero_add, List.nil_append] at o4)
        refine bodyPost_ret (results_tmp2 rfl _ _ _) rfl ?_
        rw [Nat.add_sub_cancel_left] at o4
        refine RetPair.of ((o3'.fr f4 (.inl s3)).wide hs1 s3) o4 (by omega) f4.size_alloc (Nat.le_refl _) (f4.below (hB3.alloc (by omega) _) (by omega) (Nat.le_refl _))
      · have HE : Own (w3.alloc (.cells #[] 3)) w3.heap.size (w3.heap.size + 1) 3 1 (some ⟨w3.heap.size, 0, none⟩) 0 0 (ints (xread d ⟨k, p, m, v⟩)) := by rw [xread_w d ⟨k, p, m, v⟩ hk]; exact hE
        go_wp2_with fail
        refine bodyPost_ret (results_tmp2 rfl _ _ _) rfl ?_
        exact RetPair.of (hi := w3.heap.size + 1) (o3'.wide hs1 s3) HE (by omega) (by omega) (by simp) (hB3.alloc (by omega) _)
end Go.Proofs.Ythnebfcclkebeaa
