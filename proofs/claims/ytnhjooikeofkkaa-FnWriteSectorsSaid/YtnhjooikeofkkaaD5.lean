/-
  Walks: ReadSectors and WriteSectors of the program and of the reference.
-/
import Derived.Test.YtnhjooikeofkkaaD2
import Derived.Test.YtnhjooikeofkkaaD4
namespace Go.Proofs.Ytnhjooikeofkkaa
open Go.RowKit

theorem empty_made (w : World) (e : TypeId) (s : Nat) : Own (w.alloc (.cells #[] e)) w.heap.size (w.heap.size + 1) e s (some ⟨w.heap.size, 0, none⟩) 0 0 [] :=
  Own.made (by simp) (Nat.le_refl _) (by omega) (by simp) (Nat.le_refl _) (by omega)
theorem fresh_empty (w : World) (e : TypeId) (s : Nat) : RetFresh w e s 0 [] (.returned (.slice (some ⟨w.heap.size, 0, none⟩) 0 0)) (w.alloc (.cells #[] e)) :=
  ⟨_, _, rfl, (empty_made w e s).wide (Nat.le_refl _) (by simp), (Below.refl _ _).alloc (Nat.le_refl _) _⟩
theorem fresh_nil (w : World) (e : TypeId) (s : Nat) : RetFresh w e s 0 [] (.returned (.slice none 0 0)) w := ⟨_, _, rfl, Own.nil _ _ _ _ _, Below.refl _ _⟩

theorem implReadSectors_any (A : Option Addr) (n c B : Nat) (d : List Int) (a m : Int) (w : World) (h : Sees w B 1 A n c (ints d)) (hB : B ≤ w.heap.size) :
    Calls Try.prog 9 #[.slice A n c, .int .i64 a, .int .i64 m] w (RetFresh w 3 1 (rdS d a m).length (ints (rdS d a m))) := by
  obtain rfl := h.int
  have hc1 := h.cap
  have hc2 := h.big

  cases hb : (dval d && strch a m d.length) with
  | false =>
    rw [rdS_nil d a m hb]
    cases hd : dval d with
    | false =>
      clear hb
      go_enter Try.func9, Try.ntmps9
      go_wp2_with (first | (go_at_call 13; refine (implDiskValid_any _ _ _ _ _ _ h).mono ?_; rintro e w' ⟨rfl, rfl⟩) | (go_at_call 15; refine (isStretch_any _ _ _ _ (by omega)).mono ?_; rintro e w' ⟨rfl, rfl⟩))
      go_ret
      exact fresh_nil w _ _
    | true =>
      have hs : strch a m d.length = false := by rw [hd, Bool.true_and] at hb; exact hb
      clear hb
      go_enter Try.func9, Try.ntmps9
      go_wp2_with (first | (go_at_call 13; refine (implDiskValid_any _ _ _ _ _ _ h).mono ?_; rintro e w' ⟨rfl, rfl⟩) | (go_at_call 15; refine (isStretch_any _ _ _ _ (by omega)).mono ?_; rintro e w' ⟨rfl, rfl⟩))
      go_ret
      exact fresh_nil w _ _
  | true =>
    have hd : dval d = true := by cases hd : dval d <;> simp [hd] at hb ⊢
    have hs : strch a m d.length = true := by rw [hd, Bool.true_and] at hb; exact hb
    have hlen := rdS_len d a m hd hs
    have hi := (strch_iff _ _ _).1 hs
    rw [rdS_of d a m hb] at hlen ⊢
    clear hb
    obtain ⟨p, rfl⟩ := Int.eq_ofNat_of_zero_le hi.1.1
    obtain ⟨q, rfl⟩ := Int.eq_ofNat_of_zero_le hi.2.1
    rw [Int.toNat_natCast, Int.toNat_natCast] at hlen ⊢
    have hlq : ((d.drop p).take q).length = q := by omega
    rw [hlq]
    clear hlen hlq
    have h64 := ((dval_iff d).1 hd).1
    have hsub := h.sub p q (by omega)
    rw [ints_sub] at hsub
    rw [Nat.mul_one] at hsub
    generalize (d.drop p).take q = x at hsub ⊢
    by_cases hcp : c = p
    · have hq : q = 0 := by omega
      subst hcp
      subst hq
      obtain rfl : x = [] := List.eq_nil_of_length_eq_zero hsub.int
      have hsee : Sees w B 1 A 0 0 (ints []) := Sees.none_ w B 1 0 (by omega) A
      have hs0 : strch ↑c 0 ↑d.length = true := hs
      clear hs hi hsub
      go_enter Try.func9, Try.ntmps9
      go_wp2_with (first | (go_at_call 13; refine (implDiskValid_any _ _ _ _ _ _ h).mono ?_; rintro e w' ⟨rfl, rfl⟩) | (go_at_call 15; refine (isStretch_any _ _ _ _ (by omega)).mono ?_; rintro e w' ⟨rfl, rfl⟩) | (go_at_call 16; refine (clone_any _ _ _ _ _ _ hsee (ints_one _) hB (by omega)).mono ?_; rintro e w' ⟨A2, c2, rfl, hown, hbel⟩))
      go_ret
      exact ⟨A2, c2, rfl, hown, hbel⟩
    · have hsee := hsub
      go_enter Try.func9, Try.ntmps9
      go_wp2_with (first | (go_at_call 13; refine (implDiskValid_any _ _ _ _ _ _ h).mono ?_; rintro e w' ⟨rfl, rfl⟩) | (go_at_call 15; refine (isStretch_any _ _ _ _ (by omega)).mono ?_; rintro e w' ⟨rfl, rfl⟩) | (go_at_call 16; refine (clone_any _ _ _ _ _ _ hsee (ints_one _) hB (by omega)).mono ?_; rintro e w' ⟨A2, c2, rfl, hown, hbel⟩))
      go_ret
      exact ⟨A2, c2, rfl, hown, hbel⟩


theorem implWriteSectors_any (A A' : Option Addr) (n c n' c' B B' : Nat) (d vs : List Int) (a : Int) (w : World) (h : Sees w B 1 A n c (ints d)) (hB : B ≤ w.heap.size) (hv : Sees w B' 1 A' n' c' (ints vs)) (hB' : B' ≤ w.heap.size) :
    Calls Try.prog 5 #[.slice A n c, .int .i64 a, .slice A' n' c'] w (RetFresh w 3 1 (wrS d a vs).length (ints (wrS d a vs))) := by
  obtain rfl := h.int
  obtain rfl := hv.int
  have hc1 := h.cap
  have hc2 := h.big
  have hc3 := hv.cap
  have hc4 := hv.big
  obtain ⟨i0, hi0, hz0, hz1, hz2⟩ := info_parts int_info
  cases hb : (dval d && allw vs 0 255 && strch a vs.length d.length) with
  | false =>
    rw [wrS_nil d a vs hb]
    cases hd : dval d with
    | false =>
      clear hb
      go_enter Try.func5, Try.ntmps5
      go_wp2_with (first | (go_at_call 13; refine (implDiskValid_any _ _ _ _ _ _ h).mono ?_; rintro e w' ⟨rfl, rfl⟩) | (go_at_call 14; refine (allWithin_any _ _ _ _ _ _ _ _ hv).mono ?_; rintro e w' ⟨rfl, rfl⟩) | (go_at_call 15; refine (isStretch_any _ _ _ _ (by omega)).mono ?_; rintro e w' ⟨rfl, rfl⟩))
      go_ret
      exact fresh_nil w _ _
    | true =>
      cases hw : allw vs 0 255 with
      | false =>
        clear hb
        go_enter Try.func5, Try.ntmps5
        go_wp2_with (first | (go_at_call 13; refine (implDiskValid_any _ _ _ _ _ _ h).mono ?_; rintro e w' ⟨rfl, rfl⟩) | (go_at_call 14; refine (allWithin_any _ _ _ _ _ _ _ _ hv).mono ?_; rintro e w' ⟨rfl, rfl⟩))
        go_ret
        exact fresh_nil w _ _
      | true =>
        have hs : strch a vs.length d.length = false := by
          have hw' := hw
          rw [hd, hw', Bool.true_and, Bool.true_and] at hb; exact hb
        clear hb
        go_enter Try.func5, Try.ntmps5
        go_wp2_with (first | (go_at_call 13; refine (implDiskValid_any _ _ _ _ _ _ h).mono ?_; rintro e w' ⟨rfl, rfl⟩) | (go_at_call 14; refine (allWithin_any _ _ _ _ _ _ _ _ hv).mono ?_; rintro e w' ⟨rfl, rfl⟩))
        refine (isStretch_any _ _ _ _ (by omega)).mono ?_; rintro e w' ⟨rfl, rfl⟩
        go_wp2_with fail
        go_ret
        exact fresh_nil w _ _
  | true =>
    obtain ⟨hd, hw', hs⟩ : dval d = true ∧ allw vs 0 255 = true ∧ strch a vs.length d.length = true := by simpa [and_assoc] using hb
    have hl := wrS_len d a vs hd hw' hs
    rw [hl, wrS_of d a vs hb]
    clear hb hl
    have hi := (strch_iff _ _ _).1 hs
    have h64 := ((dval_iff d).1 hd).1
    obtain ⟨p, rfl⟩ := Int.eq_ofNat_of_zero_le hi.1.1
    rw [Int.toNat_natCast]
    have hw := hw'
    clear hw'
    have hsz : (Try.prog.info? 3).map (·.size) = some 1 := by kernel_rfl
    have HR := Lib.hid (ints_splice d vs p vs.length)
    go_enter Try.func5, Try.ntmps5
    go_wp2_with (first | (go_at_call 13; refine (implDiskValid_any _ _ _ _ _ _ h).mono ?_; rintro e w' ⟨rfl, rfl⟩) | (go_at_call 14; refine (allWithin_any _ _ _ _ _ _ _ _ hv).mono ?_; rintro e w' ⟨rfl, rfl⟩) | (go_at_call 15; refine (isStretch_any _ _ _ _ (by omega)).mono ?_; rintro e w' ⟨rfl, rfl⟩))
    refine (clone_any _ _ _ _ _ _ h (ints_one _) hB (by omega)).mono ?_
    rintro e w2 ⟨A2, c2, rfl, hown2, hbel2⟩
    have hv2 := hv.below hbel2 hB'
    have hc5 := hown2.cap
    have hc6 := hown2.big
    clear hsz
    have hsz : (Try.prog.info? 3).map (·.size) = some 1 := by kernel_rfl
    have HZ := Lib.hid hsz
    clear hsz
    by_cases hcp : p = c2
    · subst hcp
      go_wp2_with (with_reducible refine wpList_cp rfl (.tmp 29) (.tmp 30) _ rfl 3 Try.underlying23 HZ.out w.heap.size w2.heap.size A2 d.length p _ hown2 p _ _ _ rfl B' A' vs.length c' _ rfl hv2 (ints_one _) (by omega) (by omega) (by intro g hg hm; exfalso; omega) ?_; intro w3 hown3 hfr3)
      go_ret
      exact ⟨A2, _, rfl, by rw [HR.out] at hown3; exact hown3.wide (Nat.le_refl _) hfr3.size, Fr.below hbel2 hfr3 (Nat.le_refl _) (Nat.le_refl _)⟩
    · go_wp2_with (with_reducible refine wpList_cp rfl (.tmp 29) (.tmp 30) _ rfl 3 Try.underlying23 HZ.out w.heap.size w2.heap.size A2 d.length c2 _ hown2 p _ _ _ rfl B' A' vs.length c' _ rfl hv2 (ints_one _) (by omega) (by omega) (by intro g hg hm; subst hg; simp [add_addr]) ?_; intro w3 hown3 hfr3)
      go_ret
      exact ⟨A2, _, rfl, by rw [HR.out] at hown3; exact hown3.wide (Nat.le_refl _) hfr3.size, Fr.below hbel2 hfr3 (Nat.le_refl _) (Nat.le_refl _)⟩

theorem specWriteSectors_any (A A' : Option Addr) (n c n' c' B B' : Nat) (d vs : List Int) (a : Int) (w : World) (h : Sees w B 1 A n c (ints d)) (hB : B ≤ w.heap.size) (hv : Sees w B' 1 A' n' c' (ints vs)) (hB' : B' ≤ w.heap.size) :
    Calls Try.prog 7 #[.slice A n c, .int .i64 a, .slice A' n' c'] w (RetFresh w 3 1 (wrS d a vs).length (ints (wrS d a vs))) := by
  obtain rfl := h.int
  obtain rfl := hv.int
  have hc1 := h.cap
  have hc2 := h.big
  have hc3 := hv.cap
  have hc4 := hv.big
  obtain ⟨i0, hi0, hz0, hz1, hz2⟩ := info_parts int_info
  cases hb : (dval d && allw vs 0 255 && strch a vs.length d.length) with
  | false =>
    rw [wrS_nil d a vs hb]
    cases hd : dval d with
    | false =>
      clear hb
      go_enter Try.func7, Try.ntmps7
      go_wp2_with fail
      refine (specDiskValid_any _ _ _ _ _ _ h).mono ?_; rintro e w' ⟨rfl, rfl⟩
      go_wp2_with fail
      go_ret
      exact fresh_empty w _ _
    | true =>
      cases hw : dval vs with
      | false =>
        clear hb
        go_enter Try.func7, Try.ntmps7
        go_wp2_with fail
        refine (specDiskValid_any _ _ _ _ _ _ h).mono ?_; rintro e w' ⟨rfl, rfl⟩
        go_wp2_with fail
        refine (specDiskValid_any _ _ _ _ _ _ hv).mono ?_; rintro e w' ⟨rfl, rfl⟩
        go_wp2_with fail
        go_ret
        exact fresh_empty w _ _
      | true =>
        have hs : strch a vs.length d.length = false := by
          have hw' : allw vs 0 255 = true := by unfold dval at hw; rw [Bool.and_eq_true] at hw; exact hw.2
          rw [hd, hw', Bool.true_and, Bool.true_and] at hb; exact hb
        clear hb
        go_enter Try.func7, Try.ntmps7
        go_wp2_with fail
        refine (specDiskValid_any _ _ _ _ _ _ h).mono ?_; rintro e w' ⟨rfl, rfl⟩
        go_wp2_with fail
        refine (specDiskValid_any _ _ _ _ _ _ hv).mono ?_; rintro e w' ⟨rfl, rfl⟩
        go_wp2_with fail
        refine (l1Range_any _ _ _ _ (by omega)).mono ?_
        rintro e w' ⟨rfl, rfl⟩
        go_wp2_with fail
        go_ret
        exact fresh_empty w _ _
  | true =>
    obtain ⟨hd, hw', hs⟩ : dval d = true ∧ allw vs 0 255 = true ∧ strch a vs.length d.length = true := by simpa [and_assoc] using hb
    have hl := wrS_len d a vs hd hw' hs
    rw [hl, wrS_of d a vs hb]
    clear hb hl
    have hi := (strch_iff _ _ _).1 hs
    have h64 := ((dval_iff d).1 hd).1
    obtain ⟨p, rfl⟩ := Int.eq_ofNat_of_zero_le hi.1.1
    rw [Int.toNat_natCast]
    have hvl : vs.length ≤ 64 := by omega
    have hw : dval vs = true := by unfold dval; rw [hw', decide_eq_true hvl]; rfl
    clear hw'
    have hown := empty_made w 3 1
    have hsee := h.below ((Below.refl B w).alloc hB (.cells #[] 3)) (Nat.le_refl _)
    go_enter Try.func7, Try.ntmps7
    go_wp2_with fail
    refine (specDiskValid_any _ _ _ _ _ _ h).mono ?_; rintro e w' ⟨rfl, rfl⟩
    go_wp2_with fail
    refine (specDiskValid_any _ _ _ _ _ _ hv).mono ?_; rintro e w' ⟨rfl, rfl⟩
    go_wp2_with fail
    refine (l1Range_any _ _ _ _ (by omega)).mono ?_
    rintro e w' ⟨rfl, rfl⟩
    go_wp2_with (at_builtin; refine wpList_app _ rfl (.tmp 27) (.tmp 28) _ rfl 3 i0 (.int .i64 0) 1 8 Try.underlying23 hi0 hz0 hz1 hz2 rfl (by decide) w.heap.size (w.heap.size + 1) _ 0 0 [] rfl hown B _ _ _ _ rfl hsee (ints_one _) (by omega) (by omega) (by simp) ?_; intro A2 c2 w2 hown2 hfr2)
    have hown2 : Own w2 w.heap.size w2.heap.size 3 1 A2 d.length c2 (ints d) := by simpa using hown2
    have hbel2 : Below w.heap.size w w2 := Fr.below ((Below.refl _ _).alloc (Nat.le_refl _) _) hfr2 (Nat.le_refl _) (Nat.le_refl _)
    have hv2 := hv.below hbel2 hB'
    have hB2 : B' ≤ w.heap.size := hB'
    clear hfr2 hsee hown h hv hz0 hz1 hz2 hi0
    have hc5 := hown2.cap
    have hc6 := hown2.big
    go_loopw [8] (fun i wr => ∃ k : Nat, k ≤ vs.length ∧ i = .int .i64 k ∧ Own wr w.heap.size w2.heap.size 3 1 A2 d.length c2 (ints (spl d vs p k)) ∧ Fr w.heap.size w2.heap.size w2 wr) (fun i _ => vs.length - (intOf i).toNat)
    case atStart => exact ⟨0, Nat.zero_le _, rfl, by rw [spl_zero]; exact hown2, Fr.refl _ _ _⟩
    case round =>
      obtain ⟨k, hk, rfl, hown3, hfr3⟩ := hrel
      have hv3 : Sees wr B' 1 A' vs.length c' (ints vs) := hv2.keep fun q hq => hfr3.cell (by have := hbel2.size; omega) (.inl (by omega))
      by_cases hlt : k < vs.length
      · obtain ⟨b, o, rfl, _, hcell⟩ := hv3.int_at (by omega)
        have hx := hcell k hlt
        obtain ⟨g, rfl, hg1, hg2, _⟩ := hown3.head (by omega)
        have hpl : p + k < (spl d vs p k).length := by rw [spl_length _ _ _ _ (by omega) (by omega)]; omega
        have hc := hown3.cell rfl (p + k) _ (ints_get _ _ hpl)
        have hf := hown3.frozen rfl (p + k)
        have hown4 := hown3.set rfl (p + k) (.int .i64 vs[k])
        rw [ints_set, spl_step d vs p k (by omega) hlt] at hown4
        have hfr4 := hfr3.set hg1 hg2 (p + k) (.int .i64 vs[k])
        generalize (spl d vs p k)[p + k] = old at hc
        clear hcell hown3 hfr3 hv3 hv2 hown2 hpl
        go_wp2
        go_roundw
        case rel => exact ⟨k + 1, by omega, by go_num, hown4, hfr4⟩
        case measure => simp [intOf]; omega
      · obtain rfl : k = vs.length := by omega
        rw [spl_end] at hown3
        go_wp2
        go_ret
        exact ⟨A2, _, rfl, hown3.wide (Nat.le_refl _) hfr3.size, Fr.below hbel2 hfr3 (Nat.le_refl _) (Nat.le_refl _)⟩
end Go.Proofs.Ytnhjooikeofkkaa
