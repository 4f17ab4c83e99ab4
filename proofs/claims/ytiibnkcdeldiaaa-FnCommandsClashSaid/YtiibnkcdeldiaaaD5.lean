/-
  Walks: ReadSectors and WriteSectors of the program and of the reference.
-/
import Derived.Test.YtiibnkcdeldiaaaD2
import Derived.Test.YtiibnkcdeldiaaaD4
namespace Go.Proofs.Ytiibnkcdeldiaaa
open Go.RowKit

theorem empty_made (w : World) (e : TypeId) (s : Nat) : Own (w.alloc (.cells #[] e)) w.heap.size (w.heap.size + 1) e s (some ⟨w.heap.size, 0, none⟩) 0 0 [] :=
  Own.made (by simp) (Nat.le_refl _) (by omega) (by simp) (Nat.le_refl _) (by omega)
theorem fresh_empty (w : World) (e : TypeId) (s : Nat) : RetFresh w e s 0 [] (.returned (.slice (some ⟨w.heap.size, 0, none⟩) 0 0)) (w.alloc (.cells #[] e)) :=
  ⟨_, _, rfl, (empty_made w e s).wide (Nat.le_refl _) (by simp), (Below.refl _ _).alloc (Nat.le_refl _) _⟩
theorem fresh_nil (w : World) (e : TypeId) (s : Nat) : RetFresh w e s 0 [] (.returned (.slice none 0 0)) w := ⟨_, _, rfl, Own.nil _ _ _ _ _, Below.refl _ _⟩

theorem implReadSectors_any (A : Option Addr) (n c B : Nat) (d : List Int) (a m : Int) (w : World) (h : Sees w B 1 A n c (ints d)) (hB : B ≤ w.heap.size) :
    Calls Try.prog 25 #[.slice A n c, .int .i64 a, .int .i64 m] w (RetFresh w 3 1 (rdS d a m).length (ints (rdS d a m))) := by
  obtain rfl := h.int
  have hc1 := h.cap
  have hc2 := h.big

  cases hb : (dval d && strch a m d.length) with
  | false =>
    rw [rdS_nil d a m hb]
    cases hd : dval d with
    | false =>
      clear hb
      go_enter Try.func25, Try.ntmps25
      go_wp2_with (first | (go_at_call 36; refine (implDiskValid_any _ _ _ _ _ _ h).mono ?_; rintro e w' ⟨rfl, rfl⟩) | (go_at_call 31; refine (isStretch_any _ _ _ _ (by omega)).mono ?_; rintro e w' ⟨rfl, rfl⟩))
      go_ret
      exact fresh_nil w _ _
    | true =>
      have hs : strch a m d.length = false := by rw [hd, Bool.true_and] at hb; exact hb
      clear hb
      go_enter Try.func25, Try.ntmps25
      go_wp2_with (first | (go_at_call 36; refine (implDiskValid_any _ _ _ _ _ _ h).mono ?_; rintro e w' ⟨rfl, rfl⟩) | (go_at_call 31; refine (isStretch_any _ _ _ _ (by omega)).mono ?_; rintro e w' ⟨rfl, rfl⟩))
      go_ret
      exact fresh_nil w _ _
  | true =>
    have hd : dval d = true := by cases hd : dval d <;> simp [hd] at hb ⊢
    have hs : strch a m d.length = true := by rw [hd, Bool.true_and] at hb; exact hb
    have hlen := rdS_len d a m hd hs
    have hi := (strch_iff _ _ _).1 hs
    rw [rdS_of d a m hb] at hlen ⊢
    clear hb
    obtain ⟨p, rfl⟩ := Int.eq_ofNat_of_zero_le hi.1.1
    obtain ⟨q, rfl⟩ := Int.eq_ofNat_of_zero_le hi.2.1
    rw [Int.toNat_natCast, Int.toNat_natCast] at hlen ⊢
    have hlq : ((d.drop p).take q).length = q := by omega
    rw [hlq]
    clear hlen hlq
    have h64 := ((dval_iff d).1 hd).1
    have hsub := h.sub p q (by omega)
    rw [ints_sub] at hsub
    rw [Nat.mul_one] at hsub
    generalize (d.drop p).take q = x at hsub ⊢
    by_cases hcp : c = p
    · have hq : q = 0 := by omega
      subst hcp
      subst hq
      obtain rfl : x = [] := List.eq_nil_of_length_eq_zero hsub.int
      have hsee : Sees w B 1 A 0 0 (ints []) := Sees.none_ w B 1 0 (by omega) A
      have hs0 : strch ↑c 0 ↑d.length = true := hs
      clear hs hi hsub
      go_enter Try.func25, Try.ntmps25
      go_wp2_with (first | (go_at_call 36; refine (implDiskValid_any _ _ _ _ _ _ h).mono ?_; rintro e w' ⟨rfl, rfl⟩) | (go_at_call 31; refine (isStretch_any _ _ _ _ (by omega)).mono ?_; rintro e w' ⟨rfl, rfl⟩) | (go_at_call 39; refine (clone_any _ _ _ _ _ _ hsee (ints_one _) hB (by omega)).mono ?_; rintro e w' ⟨A2, c2, rfl, hown, hbel⟩))
      go_ret
      exact ⟨A2, c2, rfl, hown, hbel⟩
    · have hsee := hsub
      go_enter Try.func25, Try.ntmps25
      go_wp2_with (first | (go_at_call 36; refine (implDiskValid_any _ _ _ _ _ _ h).mono ?_; rintro e w' ⟨rfl, rfl⟩) | (go_at_call 31; refine (isStretch_any _ _ _ _ (by omega)).mono ?_; rintro e w' ⟨rfl, rfl⟩) | (go_at_call 39; refine (clone_any _ _ _ _ _ _ hsee (ints_one _) hB (by omega)).mono ?_; rintro e w' ⟨A2, c2, rfl, hown, hbel⟩))
      go_ret
      exact ⟨A2, c2, rfl, hown, hbel⟩


theorem implWriteSectors_any (A A' : Option Addr) (n c n' c' B B' : Nat) (d vs : List Int) (a : Int) (w : World) (h : Sees w B 1 A n c (ints d)) (hB : B ≤ w.heap.size) (hv : Sees w B' 1 A' n' c' (ints vs)) (hB' : B' ≤ w.heap.size) :
    Calls Try.prog 26 #[.slice A n c, .int .i64 a, .slice A' n' c'] w (RetFresh w 3 1 (wrS d a vs).length (ints (wrS d a vs))) := by
  obtain rfl := h.int
  obtain rfl := hv.int
  have hc1 := h.cap
  have hc2 := h.big
  have hc3 := hv.cap
  have hc4 := hv.big
  obtain ⟨i0, hi0, hz0, hz1, hz2⟩ := info_parts int_info
  cases hb : (dval d && allw vs 0 255 && strch a vs.length d.length) with
  | false =>
    rw [wrS_nil d a vs hb]
    cases hd : dval d with
    | false =>
      clear hb
      go_enter Try.func26, Try.ntmps26
      go_wp2_with (first | (go_at_call 36; refine (implDiskValid_any _ _ _ _ _ _ h).mono ?_; rintro e w' ⟨rfl, rfl⟩) | (go_at_call 40; refine (allWithin_any _ _ _ _ _ _ _ _ hv).mono ?_; rintro e w' ⟨rfl, rfl⟩) | (go_at_call 31; refine (isStretch_any _ _ _ _ (by omega)).mono ?_; rintro e w' ⟨rfl, rfl⟩))
      go_ret
      exact fresh_nil w _ _
    | true =>
      cases hw : allw vs 0 255 with
      | false =>
        clear hb
        go_enter Try.func26, Try.ntmps26
        go_wp2_with (first | (go_at_call 36; refine (implDiskValid_any _ _ _ _ _ _ h).mono ?_; rintro e w' ⟨rfl, rfl⟩) | (go_at_call 40; refine (allWithin_any _ _ _ _ _ _ _ _ hv).mono ?_; rintro e w' ⟨rfl, rfl⟩))
        go_ret
        exact fresh_nil w _ _
      | true =>
        have hs : strch a vs.length d.length = false := by
          have hw' := hw
          rw [hd, hw', Bool.true_and, Bool.true_and] at hb; exact hb
        clear hb
        go_enter Try.func26, Try.ntmps26
        go_wp2_with (first | (go_at_call 36; refine (implDiskValid_any _ _ _ _ _ _ h).mono ?_; rintro e w' ⟨rfl, rfl⟩) | (go_at_call 40; refine (allWithin_any _ _ _ _ _ _ _ _ hv).mono ?_; rintro e w' ⟨rfl, rfl⟩))
        refine (isStretch_any _ _ _ _ (by omega)).mono ?_; rintro e w' ⟨rfl, rfl⟩
        go_wp2_with fail
        go_ret
        exact fresh_nil w _ _
  | true =>
    obtain ⟨hd, hw', hs⟩ : dval d = true ∧ allw vs 0 255 = true ∧ strch a vs.length d.length = true := by simpa [and_assoc] using hb
    have hl := wrS_len d a vs hd hw' hs
    rw [hl, wrS_of d a vs hb]
    clear hb hl
    have hi := (strch_iff _ _ _).1 hs
    have h64 := ((dval_iff d).1 hd).1
    obtain ⟨p, rfl⟩ := Int.eq_ofNat_of_zero_le hi.1.1
    rw [Int.toNat_natCast]
    have hw := hw'
    clear hw'
    have hsz : (Try.prog.info? 3).map (·.size) = some 1 := by kernel_rfl
    have HR := Lib.hid (ints_splice d vs p vs.length)
    go_enter Try.func26, Try.ntmps26
    go_wp2_with (first | (go_at_call 36; refine (implDiskValid_any _ _ _ _ _ _ h).mono ?_; rintro e w' ⟨rfl, rfl⟩) | (go_at_call 40; refine (allWithin_any _ _ _ _ _ _ _ _ hv).mono ?_; rintro e w' ⟨rfl, rfl⟩) | (go_at_call 31; refine (isStretch_any _ _ _ _ (by omega)).mono ?_; rintro e w' ⟨rfl, rfl⟩))
    refine (clone_any _ _ _ _ _ _ h (ints_one _) hB (by omega)).mono ?_
    rintro e w2 ⟨A2, c2, rfl, hown2, hbel2⟩
    have hv2 := hv.below hbel2 hB'
    have hc5 := hown2.cap
    have hc6 := hown2.big
    clear hsz
    have hsz : (Try.prog.info? 3).map (·.size) = some 1 := by kernel_rfl
    have HZ := Lib.hid hsz
    clear hsz
    by_cases hcp : p = c2
    · subst hcp
      go_wp2_with (with_reducible refine wpList_cp rfl (.tmp 29) (.tmp 30) _ rfl 3 Try.underlying35 HZ.out w.heap.size w2.heap.size A2 d.length p _ hown2 p _ _ _ rfl B' A' vs.length c' _ rfl hv2 (ints_one _) (by omega) (by omega) (by intro g hg hm; exfalso; omega) ?_; intro w3 hown3 hfr3)
      go_ret
      exact ⟨A2, _, rfl, by rw [HR.out] at hown3; exact hown3.wide (Nat.le_refl _) hfr3.size, Fr.below hbel2 hfr3 (Nat.le_refl _) (Nat.le_refl _)⟩
    · go_wp2_with (with_reducible refine wpList_cp rfl (.tmp 29) (.tmp 30) _ rfl 3 Try.underlying35 HZ.out w.heap.size w2.heap.size A2 d.length c2 _ hown2 p _ _ _ rfl B' A' vs.length c' _ rfl hv2 (ints_one _) (by omega) (by omega) (by intro g hg hm; subst hg; simp [add_addr]) ?_; intro w3 hown3 hfr3)
      go_ret
      exact ⟨A2, _, rfl, by rw [HR.out] at hown3; exact hown3.wide (Nat.le_refl _) hfr3.size, Fr.below hbel2 hfr3 (Nat.le_refl _) (Nat.le_refl _)⟩

end Go.Proofs.Ytiibnkcdeldiaaa
