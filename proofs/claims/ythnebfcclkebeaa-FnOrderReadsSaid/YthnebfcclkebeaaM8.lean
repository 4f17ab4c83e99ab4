/-
  Walks: ApplyOrder of the program and of the reference.
-/
import Derived.Test.YthnebfcclkebeaaM1
import Derived.Test.YthnebfcclkebeaaM7
namespace Go.Proofs.Ythnebfcclkebeaa
open Go.RowKit
set_option linter.unusedSimpArgs false
set_option linter.unusedVariables false
theorem newC (w : World) (v0 v1 v2 v3 : Int) : Own (w.alloc (.cells #[.int .i64 v0, .int .i64 v1, .int .i64 v2, .int .i64 v3] 55)) w.heap.size (w.heap.size + 1) 55 4 (some ⟨w.heap.size, 0, none⟩) 1 1 (cmdC [⟨v0, v1, v2, v3⟩]) :=
  Own.made rfl (Nat.le_refl _) (by omega) rfl (Nat.le_refl _) (by omega)
theorem cmdC_app (l m : List Cmd) : cmdC (l ++ m) = cmdC l ++ cmdC m := by simp [cmdC]
theorem pick_get (l : List Cmd) (j : Nat) (h : j < l.length) : pick l (j : Int) = l[j] := by simp [pick, h]
theorem map_step (l : List Cmd) (o : List Int) (k j : Nat) (hk : k < o.length) (hj : j < l.length) (e : o[k] = (j : Int)) : (o.take (k + 1)).map (pick l) = (o.take k).map (pick l) ++ [l[j]] := by
  rw [List.take_succ_eq_append_getElem hk, List.map_append, List.map_cons, List.map_nil, e, pick_get l j hj]
theorem applyO_len {l : List Cmd} {o : List Int} (h : ¬ l.length ≤ 12) : applyO l o = [] := by unfold applyO; rw [if_neg (by simp; omega)]
theorem applyO_no {l : List Cmd} {o : List Int} (h : isOrd o l.length = false) : applyO l o = [] := by unfold applyO; rw [if_neg (by simp [h])]
theorem applyO_of {l : List Cmd} {o : List Int} (h12 : l.length ≤ 12) (h : isOrd o l.length = true) : applyO l o = o.map (pick l) := by unfold applyO; rw [if_pos (by simp [h, h12])]
theorem RetFresh.nil {w w' : World} {e : TypeId} {s : Nat} (h : Below w.heap.size w w') : RetFresh w e s 0 [] (.returned (.slice none 0 0)) w' := ⟨none, 0, rfl, Own.nil _ _ _ _ _, h⟩
theorem implApplyOrder_any (A A' : Option Addr) (n c n' c' B B' : Nat) (l : List Cmd) (o : List Int) (w : World) (h : Sees w B 4 A n c (cmdC l)) (h' : Sees w B' 1 A' n' c' (ints o)) (hB : B ≤ w.heap.size) (hB' : B' ≤ w.heap.size) :
    Calls Try.prog 32 #[.slice A n c, .slice A' n' c'] w (RetFresh w 55 4 (applyO l o).length (cmdC (applyO l o))) := by
  have hn := h.cmd
  have hn' := h'.int
  have hc1 := h.cap
  have hc2 := h.big
  have hc3 := h'.cap
  have hc4 := h'.big
  obtain ⟨i0, hi0, hz0, hz1, hz2⟩ := info_parts cmd_info
  by_cases h12 : l.length ≤ 12
  case neg =>
    rw [applyO_len h12]
    have hn12 : ¬ n ≤ 12 := by omega
    clear h12 hn hn' hi0 hz0 hz1 hz2
    go_enter Try.func32, Try.ntmps32
    go_wp2_with fail
    go_ret
    exact RetFresh.nil (Below.refl _ _)
  case pos =>
  have hn12 : n ≤ 12 := by omega
  have hcall := isOrder_any A' n' c' B' n o w h' (by omega)
  cases hv : isOrd o l.length with
  | false =>
    rw [applyO_no hv]
    rw [← hn, hv] at hcall
    subst hn
    clear h12 hv hn' hi0 hz0 hz1 hz2
    go_enter Try.func32, Try.ntmps32
    go_wp2_with fail
    refine hcall.mono ?_
    rintro e w1 ⟨rfl, rfl⟩
    go_wp2_with fail
    go_ret
    exact RetFresh.nil (Below.refl _ _)
  | true =>
    rw [applyO_of h12 hv, List.length_map, hn']
    have HORD := Lib.hid ((isOrd_iff _ _).1 hv)
    have hv2 : isOrd o n = true := by rw [← hn]; exact hv
    rw [hv2] at hcall
    clear hv2
    have hnn : n' = n := by rw [← hn, ← hn']; exact HORD.out.1
    clear hv h12
    subst hnn
    have HN := Lib.hid hn
    have HN' := Lib.hid hn'
    clear hn hn'
    go_enter Try.func32, Try.ntmps32
    go_wp2_with fail
    refine hcall.mono ?_
    rintro e w1 ⟨rfl, rfl⟩
    clear hcall
    go_wp2_with fail
    go_loopw [5, 20] (fun t i wr => ∃ (k : Nat) (A2 : Option Addr) (c2 : Nat), k ≤ n' ∧ i = .int .i64 k ∧ t = .slice A2 k c2 ∧ Own wr w.heap.size wr.heap.size 55 4 A2 k c2 (cmdC ((o.take k).map (pick l))) ∧ Below w.heap.size w wr) (fun _ i _ => n' - (intOf i).toNat)
    case atStart => exact ⟨0, _, _, Nat.zero_le _, rfl, rfl, Own.nil _ _ _ _ _, Below.refl _ _⟩
    case round =>
      skip
      obtain ⟨k, A2, c2, hk, rfl, rfl, ho2, hb⟩ := hrel
      have sz := hb.size
      by_cases hlt : k < n'
      · have hkd : k < o.length := by rw [HN'.out]; exact hlt
        obtain ⟨b, z, rfl, hbB, hcell⟩ := (h'.below hb hB').int_at (by omega)
        have hx := hcell k hkd
        clear hcell
        have hv := HORD.out.2.1 o[k] (List.getElem_mem hkd)
        rw [HN.out] at hv
        obtain ⟨j, hj⟩ := Int.eq_ofNat_of_zero_le hv.1
        have hjn : j < n' := by omega
        have hjl : j < l.length := by rw [HN.out]; exact hjn
        obtain ⟨b1, z1, rfl, hb1, hcell1⟩ := (h.below hb hB).cmd_at (by omega)
        obtain ⟨hx0, hx1, hx2, hx3⟩ := hcell1 j hjl
        clear hcell1
        have HST := Lib.hid (map_step l o k j hkd hjl hj)
        rw [hj] at hx
        clear hv hj
        generalize l[j] = e at *
        obtain ⟨v0, v1, v2, v3⟩ := e
        simp only at hx0 hx1 hx2 hx3
        have p1 := ho2.below (below_new wr (.cells #[.int .i64 v0, .int .i64 v1, .int .i64 v2, .int .i64 v3] 55))
        have q1 := (newC wr v0 v1 v2 v3).sees
        have B1 := below_later hb (below_new wr (.cells #[.int .i64 v0, .int .i64 v1, .int .i64 v2, .int .i64 v3] 55)) (Nat.le_refl _)
        have S1 := B1.size
        have HI : Hid (cmdC ((o.take k).map (pick l)) ++ cmdC [⟨v0, v1, v2, v3⟩] = cmdC ((o.take (k + 1)).map (pick l))) := Lib.hid (by rw [HST.out, cmdC_app])
        clear ho2 HST
        generalize cmdC ((o.take k).map (pick l)) = xs0 at *
        go_wp2_with (at_builtin; refine wpList_app _ rfl (.tmp 24) (.tmp 29) _ rfl 55 i0 (.agg #[.int .i64 0, .int .i64 0, .int .i64 0, .int .i64 0]) 4 32 Try.underlying29 hi0 hz0 hz1 hz2 rfl (by decide) _ _ _ _ _ _ rfl p1 _ _ _ _ _ rfl q1 (cmdC_one _) (by omega) (by omega) S1 ?_; intro A3 c3 w3 o3 f3; rw [HI.out] at o3; have B3 := f3.below B1 (Nat.le_refl _) (Nat.le_refl _))
        go_roundw
        case rel => exact ⟨k + 1, _, _, by omega, by go_num, rfl, o3, B3⟩
        case measure => simp [intOf]; omega
      · have hk : k = n' := by omega
        subst hk
        rw [List.take_of_length_le (by rw [HN'.out]; exact Nat.le_refl _)] at ho2
        go_wp2_with fail
        go_ret
        exact ⟨_, _, rfl, ho2, hb⟩
theorem specApplyOrder_any (A A' : Option Addr) (n c n' c' B B' : Nat) (l : List Cmd) (o : List Int) (w : World) (h : Sees w B 4 A n c (cmdC l)) (h' : Sees w B' 1 A' n' c' (ints o)) (hB : B ≤ w.heap.size) (hB' : B' ≤ w.heap.size) :
    Calls Try.prog 42 #[.slice A n c, .slice A' n' c'] w (RetFresh w 55 4 (applyO l o).length (cmdC (applyO l o))) := by
  have hn := h.cmd
  have hn' := h'.int
  have hc1 := h.cap
  have hc2 := h.big
  have hc3 := h'.cap
  have hc4 := h'.big
  obtain ⟨i0, hi0, hz0, hz1, hz2⟩ := info_parts cmd_info
  have e0 := newEmpty w 55 4
  have b0 := below_new w (.cells #[] 55)
  have s0 : (w.alloc (.cells #[] 55)).heap.size = w.heap.size + 1 := World.size_alloc _ _
  by_cases h12 : l.length ≤ 12
  case neg =>
    rw [applyO_len h12]
    have hn12 : ¬ n ≤ 12 := by omega
    clear h12 hn hn' hi0 hz0 hz1 hz2
    go_enter Try.func42, Try.ntmps42
    go_wp2_with fail
    go_ret
    exact ⟨_, _, rfl, e0.wide (Nat.le_refl _) (by omega), b0⟩
  case pos =>
  have hn12 : n ≤ 12 := by omega
  have hcall := l5Order_any A' n' c' B' n o _ (h'.below b0 hB') (by omega) (by omega)
  cases hv : isOrd o l.length with
  | false =>
    rw [applyO_no hv]
    rw [← hn, hv] at hcall
    subst hn
    clear h12 hv hn' hi0 hz0 hz1 hz2
    go_enter Try.func42, Try.ntmps42
    go_wp2_with fail
    refine hcall.mono ?_
    rintro e w1 ⟨rfl, b1⟩
    replace e0 := e0.below b1
    replace b0 := below_later b0 b1 (by omega)
    have s1 := b1.size
    replace e0 := e0.wide (Nat.le_refl _) (show w.heap.size + 1 ≤ w1.heap.size by omega)
    go_wp2_with fail
    go_ret
    exact ⟨_, _, rfl, e0, b0⟩
  | true =>
    rw [applyO_of h12 hv, List.length_map, hn']
    have HORD := Lib.hid ((isOrd_iff _ _).1 hv)
    have hv2 : isOrd o n = true := by rw [← hn]; exact hv
    rw [hv2] at hcall
    clear hv2
    have hnn : n' = n := by rw [← hn, ← hn']; exact HORD.out.1
    clear hv h12
    subst hnn
    have HN := Lib.hid hn
    have HN' := Lib.hid hn'
    clear hn hn'
    go_enter Try.func42, Try.ntmps42
    go_wp2_with fail
    refine hcall.mono ?_
    rintro e w1 ⟨rfl, b1⟩
    replace e0 := e0.below b1
    replace b0 := below_later b0 b1 (by omega)
    have s1 := b1.size
    replace e0 := e0.wide (Nat.le_refl _) (show w.heap.size + 1 ≤ w1.heap.size by omega)
    clear hcall
    go_wp2_with fail
    go_loopw [5, 6] (fun t i wr => ∃ (k : Nat) (A2 : Option Addr) (c2 : Nat), k ≤ n' ∧ i = .int .i64 k ∧ t = .slice A2 k c2 ∧ Own wr w.heap.size wr.heap.size 55 4 A2 k c2 (cmdC ((o.take k).map (pick l))) ∧ Below w.heap.size w wr) (fun _ i _ => n' - (intOf i).toNat)
    case atStart => exact ⟨0, _, _, Nat.zero_le _, rfl, rfl, e0, b0⟩
    case round =>
      clear e0 b0 b1 s1
      obtain ⟨k, A2, c2, hk, rfl, rfl, ho2, hb⟩ := hrel
      have sz := hb.size
      by_cases hlt : k < n'
      · have hkd : k < o.length := by rw [HN'.out]; exact hlt
        obtain ⟨b, z, rfl, hbB, hcell⟩ := (h'.below hb hB').int_at (by omega)
        have hx := hcell k hkd
        clear hcell
        have hv := HORD.out.2.1 o[k] (List.getElem_mem hkd)
        rw [HN.out] at hv
        obtain ⟨j, hj⟩ := Int.eq_ofNat_of_zero_le hv.1
        have hjn : j < n' := by omega
        have hjl : j < l.length := by rw [HN.out]; exact hjn
        obtain ⟨b1, z1, rfl, hb1, hcell1⟩ := (h.below hb hB).cmd_at (by omega)
        obtain ⟨hx0, hx1, hx2, hx3⟩ := hcell1 j hjl
        clear hcell1
        have HST := Lib.hid (map_step l o k j hkd hjl hj)
        rw [hj] at hx
        clear hv hj
        generalize l[j] = e at *
        obtain ⟨v0, v1, v2, v3⟩ := e
        simp only at hx0 hx1 hx2 hx3
        have p1 := ho2.below (below_new wr (.cells #[.int .i64 v0, .int .i64 v1, .int .i64 v2, .int .i64 v3] 55))
        have q1 := (newC wr v0 v1 v2 v3).sees
        have B1 := below_later hb (below_new wr (.cells #[.int .i64 v0, .int .i64 v1, .int .i64 v2, .int .i64 v3] 55)) (Nat.le_refl _)
        have S1 := B1.size
        have HI : Hid (cmdC ((o.take k).map (pick l)) ++ cmdC [⟨v0, v1, v2, v3⟩] = cmdC ((o.take (k + 1)).map (pick l))) := Lib.hid (by rw [HST.out, cmdC_app])
        clear ho2 HST
        generalize cmdC ((o.take k).map (pick l)) = xs0 at *
        go_wp2_with (at_builtin; refine wpList_app _ rfl (.tmp 25) (.tmp 33) _ rfl 55 i0 (.agg #[.int .i64 0, .int .i64 0, .int .i64 0, .int .i64 0]) 4 32 Try.underlying29 hi0 hz0 hz1 hz2 rfl (by decide) _ _ _ _ _ _ rfl p1 _ _ _ _ _ rfl q1 (cmdC_one _) (by omega) (by omega) S1 ?_; intro A3 c3 w3 o3 f3; rw [HI.out] at o3; have B3 := f3.below B1 (Nat.le_refl _) (Nat.le_refl _))
        go_roundw
        case rel => exact ⟨k + 1, _, _, by omega, by go_num, rfl, o3, B3⟩
        case measure => simp [intOf]; omega
      · have hk : k = n' := by omega
        subst hk
        rw [List.take_of_length_le (by rw [HN'.out]; exact Nat.le_refl _)] at ho2
        go_wp2_with fail
        go_ret
        exact ⟨_, _, rfl, ho2, hb⟩
end Go.Proofs.Ythnebfcclkebeaa
