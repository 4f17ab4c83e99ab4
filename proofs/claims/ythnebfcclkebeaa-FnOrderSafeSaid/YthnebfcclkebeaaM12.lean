/-
  Walks: ExecuteBatch of the program and of the reference.
-/
import Derived.Test.YthnebfcclkebeaaM11
import Derived.Test.YthnebfcclkebeaaD4
import Derived.Test.YthnebfcclkebeaaD3
import Derived.Deep.DeepCutAuto
namespace Go.Proofs.Ythnebfcclkebeaa
open Go.RowKit
set_option linter.unusedSimpArgs false
set_option linter.unusedVariables false
set_option maxHeartbeats 4000000 in
theorem implExecuteBatch_any (A A' : Option Addr) (n c n' c' B B' : Nat) (d : List Int) (l : List Cmd) (w : World) (h : Sees w B 1 A n c (ints d)) (h' : Sees w B' 4 A' n' c' (cmdC l)) (hB : B ≤ w.heap.size) (hB' : B' ≤ w.heap.size) :
    Calls Try.prog 19 #[.slice A n c, .slice A' n' c'] w (RetBatch w (exBD d l) (exBR d l)) := by
  have hn := h.int
  have hn' := h'.cmd
  have hc1 := h.cap
  have hc2 := h.big
  have hc3 := h'.cap
  have hc4 := h'.big
  have hdv := implDiskValid_any A n c B d w h
  cases hd : dval d with
  | false =>
    rw [exBD_no (by rw [hd]; rfl), exBR_no (by rw [hd]; rfl)]
    rw [hd] at hdv
    clear hd hn hn'
    go_enter Try.func19, Try.ntmps19
    go_wp2_with fail
    refine hdv.mono ?_
    rintro e w1 ⟨rfl, rfl⟩
    go_wp2_with fail
    refine bodyPost_ret (results_tmp2 rfl _ _ _) rfl ?_
    exact RetBatch.nil (Below.refl _ _)
  | true =>
  have hbv := implBatchValid_any A' n' c' B' l n w h' hB' (by omega)
  rw [hd] at hdv
  cases hv : bval l n with
  | false =>
    have hv2 : bval l d.length = false := by rw [hn]; exact hv
    rw [exBD_no (by rw [hv2, Bool.and_false]), exBR_no (by rw [hv2, Bool.and_false])]
    rw [hv] at hbv
    clear hv hv2 hd hn hn'
    go_enter Try.func19, Try.ntmps19
    go_wp2_with fail
    refine hdv.mono ?_
    rintro e w1 ⟨rfl, rfl⟩
    clear hdv
    go_wp2_with fail
    refine hbv.mono ?_
    rintro e w1 ⟨rfl, b1⟩
    go_wp2_with fail
    refine bodyPost_ret (results_tmp2 rfl _ _ _) rfl ?_
    exact RetBatch.nil b1
  | true =>
    have hv2 : bval l d.length = true := by rw [hn]; exact hv
    rw [exBD_of hd hv2, exBR_of hd hv2]
    have hvv := (bval_iff _ _).1 hv
    have hn12 : n' ≤ 12 := by omega
    have HCV : Hid (∀ c ∈ l, cval c n = true) := Lib.hid hvv.2.2
    have HRL : Hid (∀ k, (runD d (l.take k)).length = n) := Lib.hid (fun k => by rw [runD_len (l.take k) d (fun c hc => by rw [hn]; exact hvv.2.2 c (List.mem_of_mem_take hc))]; exact hn)
    have HRV : Hid (∀ k, dval (runD d (l.take k)) = true) := Lib.hid (fun k => runD_val (l.take k) d hd (fun c hc => by rw [hn]; exact hvv.2.2 c (List.mem_of_mem_take hc)))
    have hn64 : n ≤ 64 := by have := ((dval_iff d).1 hd).1; omega
    rw [hv] at hbv
    have HN' := Lib.hid hn'
    have HN := Lib.hid hn
    obtain ⟨i0, hi0, hz0, hz1, hz2⟩ := info_parts row_info
    skip
    clear hvv hv hv2 hd hn hn'
    go_enter Try.func19, Try.ntmps19
    go_wp2_with fail
    refine hdv.mono ?_
    rintro e w1 ⟨rfl, rfl⟩
    clear hdv
    go_wp2_with fail
    refine hbv.mono ?_
    rintro e w1 ⟨rfl, b1⟩
    have s1 := b1.size
    have h1 := h.below b1 hB
    clear hbv
    go_wp2_with fail
    refine (clone_any _ _ _ _ _ _ h1 (ints_one _) (by omega) (by omega)).mono ?_
    rintro e w2 ⟨A2, c2, rfl, o2, b2⟩
    have s2 := b2.size
    have b3 := below_later b1 b2 (Nat.le_refl _)
    have HST := Lib.hid (St.start (w := w) (wr := w2) o2 (Own.nil w2 w2.heap.size w2.heap.size 22 1) (by omega) (by omega) (by omega) b3)
    clear h1
    go_wp2_with fail
    go_loopw [6, 7, 26] (fun t1 t2 i wr => ∃ (k : Nat) (A1 : Option Addr) (c1 : Nat) (A2 : Option Addr) (c2 a b lo hi : Nat) (L H : Nat → Nat) (vs : List Value), k ≤ n' ∧ i = .int .i64 k ∧ t1 = .slice A1 n c1 ∧ t2 = .slice A2 k c2 ∧ St w wr A1 n c1 A2 k c2 (runD d (l.take k)) (runR d (l.take k)) a b lo hi L H vs) (fun _ _ i _ => n' - (intOf i).toNat)
    case atStart => exact ⟨0, _, _, _, _, _, _, _, _, _, _, _, Nat.zero_le _, rfl, rfl, rfl, HST.out⟩
    case round =>
      clear o2 b3 HST b1 b2
      obtain ⟨k, A1, c1, A2, c2, a, b, lo, hi, L, H, vs, hk, rfl, rfl, rfl, st⟩ := hrel
      have sz := st.bel.size
      by_cases hlt : k < n'
      · have hkd : k < l.length := by rw [HN'.out]; exact hlt
        obtain ⟨bb, z, rfl, hbB, hcell⟩ := (h'.below st.bel hB').cmd_at (by omega)
        obtain ⟨hx0, hx1, hx2, hx3⟩ := hcell k hkd
        clear hcell
        have HCK := Lib.hid (HCV.out l[k] (List.getElem_mem hkd))
        have HSD := Lib.hid (runD_step d l k hkd)
        have HSR := Lib.hid (runR_step d l k hkd)
        generalize l[k] = e at *
        obtain ⟨v0, v1, v2, v3⟩ := e
        simp only at hx0 hx1 hx2 hx3
        have hXl := HRL.out (k + 1)
        have hDv := HRV.out k
        rw [HSD.out] at hXl
        obtain ⟨mY, hmY⟩ : ∃ m, (xread (runD d (l.take k)) ⟨v0, v1, v2, v3⟩).length = m := ⟨_, rfl⟩
        have stK : St w (wr.alloc (.cells #[.int .i64 v0, .int .i64 v1, .int .i64 v2, .int .i64 v3] 55)) A1 n c1 A2 k c2 (runD d (l.take k)) (runR d (l.take k)) a b lo hi L H vs := st.below (below_new _ _)
        have r4 := heap_alloc_new wr (.cells #[.int .i64 v0, .int .i64 v1, .int .i64 v2, .int .i64 v3] 55)
        obtain ⟨m0, m1, m2, m3⟩ := cells4 r4
        have hex := executed_n A1 n c1 _ mY _ ⟨v0, v1, v2, v3⟩ _ stK.disk.sees (by have := stK.bd; omega) HCK.out hXl hmY
        have HNEXT := fun (w1 w3 : World) (A5 A6 A7 : Option Addr) (c5 c6 c7 mid lo2 hi2 : Nat) (o : Obj) o2 o3 g1 g2 b1 o4 hlo f => St.next stK (w1 := w1) (w3 := w3) (A2 := A5) (A3 := A6) (A4 := A7) (c2 := c5) (c3 := c6) (c4 := c7) (mid := mid) (mY := mY) (lo2 := lo2) (hi2 := hi2) (X := xdisk (runD d (l.take k)) ⟨v0, v1, v2, v3⟩) (Y := xread (runD d (l.take k)) ⟨v0, v1, v2, v3⟩) (o := o) o2 o3 g1 g2 b1 o4 hlo f
        have stR := stK.rows
        have stB := stK.bo
        clear st stK r4
        simp only [cmdV] at hex
        have HEX := Lib.hid hex
        clear hXl hmY hDv hex
        go_wp2_with fail
        refine HEX.out.mono ?_
        rintro e w2 ⟨A3, c3, A4, c4, mid, rfl, o2, o3, g1, g2, b2⟩
        have p1 := (stR.below b2).below (below_new w2 (.cells #[.slice A4 mY c4] 22))
        have q1 := Sees.one w2 22 (.slice A4 mY c4)
        have z2 := b2.size
        have z3 : (w2.alloc (.cells #[.slice A4 mY c4] 22)).heap.size = w2.heap.size + 1 := World.size_alloc _ _
        have S1 : lo ≤ (w2.alloc (.cells #[.slice A4 mY c4] 22)).heap.size := by omega
        go_wp2_with (at_builtin; refine wpList_app2 _ rfl (.tmp 37) (.tmp 39) _ rfl 22 i0 (.slice none 0 0) 1 24 Try.underlying25 hi0 hz0 hz1 hz2 rfl (by decide) lo hi _ _ _ vs rfl p1 _ _ _ _ _ rfl q1 (one_row _ _ _) (by omega) (by omega) S1 ?_; intro A5 c5 w3 lo2 hi2 o4 hlo f3; have NX := HNEXT w2 w3 A3 A4 A5 c3 c4 c5 mid lo2 hi2 _ o2 o3 g1 g2 b2 o4 hlo f3)
        go_roundw
        case rel => exact ⟨k + 1, _, _, _, _, _, _, _, _, _, _, _, by omega, by go_num, rfl, rfl, by rw [HSD.out, HSR.out]; exact NX⟩
        case measure => simp [intOf]; omega
      · have hk : k = n' := by omega
        subst hk
        rw [List.take_of_length_le (by rw [HN'.out]; exact Nat.le_refl _)] at st
        go_wp2_with fail
        refine bodyPost_ret (results_tmp2 rfl _ _ _) rfl ?_
        exact ⟨_, _, _, _, _, _, _, _, _, _, _, _, _, rfl, st⟩
set_option maxHeartbeats 4000000 in
theorem specExecuteBatch_any (A A' : Option Addr) (n c n' c' B B' : Nat) (d : List Int) (l : List Cmd) (w : World) (h : Sees w B 1 A n c (ints d)) (h' : Sees w B' 4 A' n' c' (cmdC l)) (hB : B ≤ w.heap.size) (hB' : B' ≤ w.heap.size) :
    Calls Try.prog 16 #[.slice A n c, .slice A' n' c'] w (RetBatch w (exBD d l) (exBR d l)) := by
  have hn := h.int
  have hn' := h'.cmd
  have hc1 := h.cap
  have hc2 := h.big
  have hc3 := h'.cap
  have hc4 := h'.big
  have hdv := specDiskValid_any A n c B d w h
  cases hd : dval d with
  | false =>
    rw [exBD_no (by rw [hd]; rfl), exBR_no (by rw [hd]; rfl)]
    rw [hd] at hdv
    clear hd hn hn'
    go_enter Try.func16, Try.ntmps16
    go_wp2_with fail
    refine hdv.mono ?_
    rintro e w1 ⟨rfl, rfl⟩
    go_wp2_with fail
    refine bodyPost_ret (results_tmp2 rfl _ _ _) rfl ?_
    exact RetBatch.empty (Below.refl _ _)
  | true =>
  have hbv := specBatchValid_any A' n' c' B' l n w h' hB' (by omega)
  rw [hd] at hdv
  cases hv : bval l n with
  | false =>
    have hv2 : bval l d.length = false := by rw [hn]; exact hv
    rw [exBD_no (by rw [hv2, Bool.and_false]), exBR_no (by rw [hv2, Bool.and_false])]
    rw [hv] at hbv
    clear hv hv2 hd hn hn'
    go_enter Try.func16, Try.ntmps16
    go_wp2_with fail
    refine hdv.mono ?_
    rintro e w1 ⟨rfl, rfl⟩
    clear hdv
    go_wp2_with fail
    refine hbv.mono ?_
    rintro e w1 ⟨rfl, b1⟩
    go_wp2_with fail
    refine bodyPost_ret (results_tmp2 rfl _ _ _) rfl ?_
    exact RetBatch.empty b1
  | true =>
    have hv2 : bval l d.length = true := by rw [hn]; exact hv
    rw [exBD_of hd hv2, exBR_of hd hv2]
    have hvv := (bval_iff _ _).1 hv
    have hn12 : n' ≤ 12 := by omega
    have HCV : Hid (∀ c ∈ l, cval c n = true) := Lib.hid hvv.2.2
    have HRL : Hid (∀ k, (runD d (l.take k)).length = n) := Lib.hid (fun k => by rw [runD_len (l.take k) d (fun c hc => by rw [hn]; exact hvv.2.2 c (List.mem_of_mem_take hc))]; exact hn)
    have HRV : Hid (∀ k, dval (runD d (l.take k)) = true) := Lib.hid (fun k => runD_val (l.take k) d hd (fun c hc => by rw [hn]; exact hvv.2.2 c (List.mem_of_mem_take hc)))
    have hn64 : n ≤ 64 := by have := ((dval_iff d).1 hd).1; omega
    rw [hv] at hbv
    have HN' := Lib.hid hn'
    have HN := Lib.hid hn
    obtain ⟨i0, hi0, hz0, hz1, hz2⟩ := info_parts row_info
    obtain ⟨j0, hj0, hy0, hy1, hy2⟩ := info_parts int_info
    clear hvv hv hv2 hd hn hn'
    go_enter Try.func16, Try.ntmps16
    go_wp2_with fail
    refine hdv.mono ?_
    rintro e w1 ⟨rfl, rfl⟩
    clear hdv
    go_wp2_with fail
    refine hbv.mono ?_
    rintro e w1 ⟨rfl, b1⟩
    have s1 := b1.size
    have h1 := h.below b1 hB
    clear hbv
    have z1 : (w1.alloc (.cells #[] 3)).heap.size = w1.heap.size + 1 := World.size_alloc _ _
    go_wp2_with (at_builtin; refine wpList_app _ rfl (.tmp 23) (.tmp 24) _ rfl 3 j0 (.int .i64 0) 1 8 Try.underlying22 hj0 hy0 hy1 hy2 rfl (by decide) w1.heap.size (w1.heap.size + 1) _ 0 0 [] rfl (empty_made w1 3 1) _ _ _ _ _ rfl (h1.below (below_new w1 (.cells #[] 3)) (by omega)) (ints_one _) (by omega) (by omega) (by omega) ?_; intro A2 c2 w2 o2 f2; simp only [Nat.zero_add, List.nil_append] at o2; have b2 := f2.below (below_new w1 (.cells #[] 3)) (Nat.le_refl _) (Nat.le_refl _); have s2 := b2.size; have b3 := below_later (below_later b1 b2 (Nat.le_refl _)) (below_new w2 (.cells #[] 22)) (Nat.le_refl _); have s3 : (w2.alloc (.cells #[] 22)).heap.size = w2.heap.size + 1 := World.size_alloc _ _; have HST := Lib.hid (St.start (w := w) (wr := w2.alloc (.cells #[] 22)) (o2.below (below_new _ _)) (newEmpty w2 22 1) (by omega) (by omega) (by omega) b3))
    go_loopw [6, 7, 8] (fun t1 t2 i wr => ∃ (k : Nat) (A1 : Option Addr) (c1 : Nat) (A2 : Option Addr) (c2 a b lo hi : Nat) (L H : Nat → Nat) (vs : List Value), k ≤ n' ∧ i = .int .i64 k ∧ t1 = .slice A1 n c1 ∧ t2 = .slice A2 k c2 ∧ St w wr A1 n c1 A2 k c2 (runD d (l.take k)) (runR d (l.take k)) a b lo hi L H vs) (fun _ _ i _ => n' - (intOf i).toNat)
    case atStart => exact ⟨0, _, _, _, _, _, _, _, _, _, _, _, Nat.zero_le _, rfl, rfl, rfl, HST.out⟩
    case round =>
      clear HST b1
      obtain ⟨k, A1, c1, A2, c2, a, b, lo, hi, L, H, vs, hk, rfl, rfl, rfl, st⟩ := hrel
      have sz := st.bel.size
      by_cases hlt : k < n'
      · have hkd : k < l.length := by rw [HN'.out]; exact hlt
        obtain ⟨bb, z, rfl, hbB, hcell⟩ := (h'.below st.bel hB').cmd_at (by omega)
        obtain ⟨hx0, hx1, hx2, hx3⟩ := hcell k hkd
        clear hcell
        have HCK := Lib.hid (HCV.out l[k] (List.getElem_mem hkd))
        have HSD := Lib.hid (runD_step d l k hkd)
        have HSR := Lib.hid (runR_step d l k hkd)
        generalize l[k] = e at *
        obtain ⟨v0, v1, v2, v3⟩ := e
        simp only at hx0 hx1 hx2 hx3
        have hXl := HRL.out (k + 1)
        have hDv := HRV.out k
        rw [HSD.out] at hXl
        obtain ⟨mY, hmY⟩ : ∃ m, (xread (runD d (l.take k)) ⟨v0, v1, v2, v3⟩).length = m := ⟨_, rfl⟩
        have hex := execCmd_n A1 n c1 _ mY _ ⟨v0, v1, v2, v3⟩ _ st.disk.sees (by have := st.bd; omega) hDv HCK.out hXl hmY
        have HNEXT := fun (w1 w3 : World) (A5 A6 A7 : Option Addr) (c5 c6 c7 mid lo2 hi2 : Nat) (o : Obj) o2 o3 g1 g2 b1 o4 hlo f => St.next st (w1 := w1) (w3 := w3) (A2 := A5) (A3 := A6) (A4 := A7) (c2 := c5) (c3 := c6) (c4 := c7) (mid := mid) (mY := mY) (lo2 := lo2) (hi2 := hi2) (X := xdisk (runD d (l.take k)) ⟨v0, v1, v2, v3⟩) (Y := xread (runD d (l.take k)) ⟨v0, v1, v2, v3⟩) (o := o) o2 o3 g1 g2 b1 o4 hlo f
        have stR := st.rows
        have stB := st.bo
        clear st
        simp only [cmdV] at hex
        have HEX := Lib.hid hex
        clear hXl hmY hDv hex
        go_wp2_with fail
        refine HEX.out.mono ?_
        rintro e w2 ⟨A3, c3, A4, c4, mid, rfl, o2, o3, g1, g2, b2⟩
        have p1 := (stR.below b2).below (below_new w2 (.cells #[.slice A4 mY c4] 22))
        have q1 := Sees.one w2 22 (.slice A4 mY c4)
        have z2 := b2.size
        have z3 : (w2.alloc (.cells #[.slice A4 mY c4] 22)).heap.size = w2.heap.size + 1 := World.size_alloc _ _
        have S1 : lo ≤ (w2.alloc (.cells #[.slice A4 mY c4] 22)).heap.size := by omega
        go_wp2_with (at_builtin; refine wpList_app2 _ rfl (.tmp 43) (.tmp 45) _ rfl 22 i0 (.slice none 0 0) 1 24 Try.underlying25 hi0 hz0 hz1 hz2 rfl (by decide) lo hi _ _ _ vs rfl p1 _ _ _ _ _ rfl q1 (one_row _ _ _) (by omega) (by omega) S1 ?_; intro A5 c5 w3 lo2 hi2 o4 hlo f3; have NX := HNEXT w2 w3 A3 A4 A5 c3 c4 c5 mid lo2 hi2 _ o2 o3 g1 g2 b2 o4 hlo f3)
        go_roundw
        case rel => exact ⟨k + 1, _, _, _, _, _, _, _, _, _, _, _, by omega, by go_num, rfl, rfl, by rw [HSD.out, HSR.out]; exact NX⟩
        case measure => simp [intOf]; omega
      · have hk : k = n' := by omega
        subst hk
        rw [List.take_of_length_le (by rw [HN'.out]; exact Nat.le_refl _)] at st
        go_wp2_with fail
        refine bodyPost_ret (results_tmp2 rfl _ _ _) rfl ?_
        exact ⟨_, _, _, _, _, _, _, _, _, _, _, _, _, rfl, st⟩
end Go.Proofs.Ythnebfcclkebeaa
