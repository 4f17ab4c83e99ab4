/-
  Walk: the law FnReadyCommands returns true.
-/
import Derived.Deep.DeepCutAuto
import Derived.IntWalk
import Derived.Test.YthnebfcclkebeaaM8
import Derived.Test.YthnebfcclkebeaaS3
import Derived.Test.YthnebfcclkebeaaM10
import Derived.Test.YthnebfcclkebeaaM16
import Derived.Test.YthnebfcclkebeaaPlainO
import Derived.Test.YthnebfcclkebeaaM9
import Derived.Test.YthnebfcclkebeaaA
namespace Go.Proofs.Ythnebfcclkebeaa
open Go.RowKit
set_option linter.unusedSimpArgs false
set_option linter.unusedVariables false
set_option maxHeartbeats 4000000 in
theorem law_FnReadyCommands (w : World) (A : Option Addr) (n c : Nat) (bs : List Int) (h : Sees w w.heap.size 1 A n c (byts bs)) (hb : ∀ v ∈ bs, 0 ≤ v ∧ v ≤ 255) :
    Calls Try.prog 12 #[.slice A n c] w (RetPure w (.bool true)) := by
  have hc1 := h.cap
  have hc2 := h.big
  by_cases hn1 : 1048576 < n
  · go_enter Try.func12, Try.ntmps12
    go_wp2_with fail
    go_ret
    exact ⟨rfl, Below.refl _ _⟩
  have hB : Below w.heap.size w w := Below.refl _ _
  go_enter Try.func12, Try.ntmps12
  go_wp2_with fail
  refine (drawReadyCommands_any _ _ _ _ _ _ h (Nat.le_refl _) hb).mono ?_
  rintro e w2 ⟨Al, nl, cl, l, rfl, ol, hnl, b2⟩
  have s2 := b2.size
  replace hB := below_later hB b2 (Nat.le_refl _)
  clear b2
  clear h hb
  have hlc := ol.cap
  have HLL := Lib.hid ol.sees.cmd
  obtain ⟨i0, hi0, hz0, hz1, hz2⟩ := info_parts int_info
  obtain ⟨Y, hletter⟩ : ∃ y, readyL l = y := ⟨_, rfl⟩
  have HY := Lib.hid hletter
  clear hletter
  obtain ⟨nY, hnY⟩ : ∃ n, Y.length = n := ⟨_, rfl⟩
  have HNY := Lib.hid hnY
  clear hnY
  go_wp2_with fail
  have q := implReadyCommands_any _ _ _ _ l _ ol.sees (by omega)
  rw [HY.out, HNY.out] at q
  refine q.mono ?_
  clear q
  rintro e w3 ⟨Ay, cy, rfl, oy, b3⟩
  have s3 := b3.size
  replace ol := ol.below b3
  replace hB := below_later hB b3 (Nat.le_refl _)
  clear b3
  go_wp2_with fail
  have q := specReadyCommands_any _ _ _ _ l _ ol.sees (by omega)
  rw [HY.out, HNY.out] at q
  refine q.mono ?_
  clear q
  rintro e w4 ⟨Az, cz, rfl, oz, b4⟩
  have s4 := b4.size
  replace ol := ol.below b4
  replace oy := oy.below b4
  replace hB := below_later hB b4 (Nat.le_refl _)
  clear b4
  go_wp2_with fail
  refine (sameInts_t _ _ _ _ _ _ _ _ _ _ oy.sees oz.sees).mono ?_
  rintro e w5 ⟨rfl, b5⟩
  have s5 := b5.size
  replace ol := ol.below b5
  replace oy := oy.below b5
  replace oz := oz.below b5
  replace hB := below_later hB b5 (Nat.le_refl _)
  clear b5
  clear oz
  have hyc := oy.cap
  have hyb := oy.big
  by_cases hy0 : nY = 0
  · subst hy0
    go_wp2_with fail
    refine (alive_any _).mono ?_
    rintro e w6 ⟨rfl, b6⟩
    have s6 := b6.size
    replace ol := ol.below b6
    replace oy := oy.below b6
    replace hB := below_later hB b6 (Nat.le_refl _)
    clear b6
    go_wp2_with fail
    go_ret
    exact ⟨rfl, hB⟩
  · have dy1 : decide (nY = 0) = false := decide_eq_false hy0
    have dy2 : ((nY : Int) == 0) = false := beq_eq_false_iff_ne.2 (by omega)
    have dy3 : decide ((nY : Int) = 0) = false := decide_eq_false (by omega)
    have hb64 : bval l 64 = true := by cases hq : bval l 64 with | true => rfl | false => (exfalso; have hh := HY.out; rw [readyL_no hq] at hh; have h2 := HNY.out; rw [← hh] at h2; simp at h2; omega)
    have hYr : Y = readyTo l nl := by rw [← HY.out, ← HLL.out]; exact readyL_of hb64
    have hl12 : nl ≤ 12 := by have := ((bval_iff _ _).1 hb64).1; rw [HLL.out] at this; exact this
    have hln : 0 < nl := by have h2 := HNY.out; rw [hYr] at h2; have := readyTo_len l nl; omega
    have HYR := Lib.hid hYr
    have HSF : Hid (∀ k, k < nl → safeO l ((k : Int) :: others k nl) = rdy l k) := Lib.hid (fun k hk => by have := front_safe l k (by rw [HLL.out]; exact hk) hb64; rw [HLL.out] at this; exact this)
    have HAT : Hid (∀ k a, k < nl → (readyTo l k).length = a → rdy l k = true → a < nY ∧ ∀ h : a < Y.length, Y[a] = (k : Int)) := Lib.hid (fun k a hk ha hr => by have h1 := readyTo_at l k nl hk hr; rw [ha, ← HYR.out] at h1; obtain ⟨h2, h3⟩ := List.getElem?_eq_some_iff.1 h1; exact ⟨by rw [← HNY.out]; exact h2, fun _ => h3⟩)
    have HNOT : Hid (∀ k a, k < nl → (readyTo l k).length = a → rdy l k = false → ∀ h : a < Y.length, Y[a] ≠ (k : Int)) := Lib.hid (fun k a hk ha hr h => readyTo_not l k nl hk hr _ (by rw [ha, ← HYR.out]; exact List.getElem?_eq_getElem h))
    obtain ⟨gb, gz, hgA, hgB, hcell⟩ := oy.sees.int_at (by omega)
    subst hgA
    have HY0 : Hid (∀ h : 0 < Y.length, Y[0] = 0) := Lib.hid (fun h => by have h1 := readyTo_first l nl hln; rw [← HYR.out] at h1; exact (List.getElem?_eq_some_iff.1 h1).2)
    clear hb64 hYr hln hcell
    go_upto_region 11 with fail
    go_loopw [5, 6] (fun t1 i wr => ∃ (k a : Nat), k ≤ nl ∧ i = .int .i64 k ∧ t1 = .int .i64 a ∧ Hid ((readyTo l k).length = a) ∧ Below w5.heap.size w5 wr) (fun _ i _ => nl - (intOf i).toNat)
    case atStart => exact ⟨0, 0, Nat.zero_le _, rfl, rfl, Lib.hid rfl, Below.refl _ _⟩
    case round =>
      obtain ⟨k, a, hk, rfl, rfl, HA, bW⟩ := hrel
      have ha := readyTo_len l k
      rw [HA.out] at ha
      have sW := bW.size
      replace ol := ol.below bW
      replace oy := oy.below bW
      replace hB := below_later hB bW (Nat.le_refl _)
      by_cases hlt : k < nl
      · generalize wr = wo at *
        have e0 := newOne wo 3 (.int .i64 (k : Int))
        have z0 : (wo.alloc (.cells #[.int .i64 (k : Int)] 3)).heap.size = wo.heap.size + 1 := World.size_alloc _ _
        replace e0 := e0.wide (Nat.le_refl _) (show wo.heap.size + 1 ≤ (wo.alloc (.cells #[.int .i64 (k : Int)] 3)).heap.size by omega)
        have bn := below_new wo (.cells #[.int .i64 (k : Int)] 3)
        have E0 := Lib.hid e0
        have BN := Lib.hid bn
        clear e0 bn
        go_upto_region 15 with fail
        go_loopw [7, 8] (fun t1 i wr => ∃ (j m : Nat) (A2 : Option Addr) (c2 : Nat), j ≤ nl ∧ i = .int .i64 j ∧ t1 = .slice A2 m c2 ∧ Hid ((others k j).length + 1 = m) ∧ Own wr wo.heap.size wr.heap.size 3 1 A2 m c2 (ints ((k : Int) :: others k j)) ∧ Below wo.heap.size wo wr) (fun _ i _ => nl - (intOf i).toNat)
        case atStart => exact ⟨0, 1, _, _, Nat.zero_le _, rfl, rfl, Lib.hid rfl, E0.out, BN.out⟩
        case round =>
          clear E0 BN
          obtain ⟨j, m, A2, c2, hj, rfl, rfl, HM, o2, bX⟩ := hrel
          have sX := bX.size
          by_cases hlj : j < nl
          · have HM2 : m ≤ j + 1 := by have := HM.out; by_cases hfk : j ≤ k; (have := others_len_lt k j hfk; omega); (have := others_len k j (by omega); omega)
            by_cases hjk : j = k
            · have HO : Hid (others k (j + 1) = others k j) := Lib.hid (by rw [hjk]; exact others_no k)
              have HM3 : Hid ((others k (j + 1)).length + 1 = m) := Lib.hid (by rw [HO.out]; exact HM.out)
              rw [← HO.out] at o2
              have dne : decide ((j : Int) ≠ (k : Int)) = false := decide_eq_false (by omega)
              go_wp2_with fail
              go_roundw
              case rel => exact ⟨j + 1, m, _, _, by omega, by go_num, rfl, HM3, o2, bX⟩
              case measure => simp [intOf]; omega
            · have HO := Lib.hid (others_yes k j hjk)
              have HM3 : Hid ((others k (j + 1)).length + 1 = m + 1) := Lib.hid (by rw [HO.out, List.length_append]; have := HM.out; simp; omega)
              have HI : Hid (ints ((k : Int) :: others k j) ++ [Value.int .i64 (j : Int)] = ints ((k : Int) :: others k (j + 1))) := Lib.hid (by rw [HO.out, ← List.cons_append, ints_app]; rfl)
              have p1 := o2.below (below_new wr (.cells #[.int .i64 (j : Int)] 3))
              have q1 := Sees.one wr 3 (.int .i64 (j : Int))
              have B1 := below_later bX (below_new wr (.cells #[.int .i64 (j : Int)] 3)) (Nat.le_refl _)
              have S1 := B1.size
              clear o2 HO
              generalize ints ((k : Int) :: others k j) = xs0 at *
              have dne : decide ((j : Int) ≠ (k : Int)) = true := decide_eq_true (by omega)
              go_wp2_with (at_builtin; refine wpList_app _ rfl (.tmp 43) (.tmp 45) _ rfl 3 i0 (.int .i64 0) 1 8 Try.underlying22 hi0 hz0 hz1 hz2 rfl (by decide) _ _ _ _ _ _ rfl p1 _ _ _ _ _ rfl q1 (one_int _) (by omega) (by omega) S1 ?_; intro A3 c3 w33 o3 f3; rw [HI.out] at o3; have B3 := f3.below B1 (Nat.le_refl _) (Nat.le_refl _))
              go_roundw
              case rel => exact ⟨j + 1, m + 1, _, _, by omega, by go_num, rfl, HM3, o3, B3⟩
              case measure => simp [intOf]; omega
          · have hj2 : j = nl := by omega
            subst hj2
            have HM4 : m ≤ 13 := by have := HM.out; have := others_len k j (by omega); omega
            replace ol := ol.below bX
            replace oy := oy.below bX
            replace hB := below_later hB bX (Nat.le_refl _)
            have s2 := o2.sees
            have HSK := Lib.hid (HSF.out k hlt)
            have hat := HAT.out k a hlt HA.out
            have hnot := HNOT.out k a hlt HA.out
            have hyes := readyTo_yes l k
            have hno := readyTo_no l k
            cases hr : rdy l k
            · have HA2 : Hid ((readyTo l (k + 1)).length = a) := Lib.hid (by rw [hno hr]; exact HA.out)
              by_cases haY0 : a < nY
              · have haY : a < Y.length := by rw [HNY.out]; exact haY0
                obtain ⟨gb2, gz2, hA2, hgB2, hcell⟩ := oy.sees.int_at (by omega)
                cases hA2
                have hx := hcell a haY
                have hne := hnot hr haY
                generalize Y[a] = v at *
                have dne : decide (v = (k : Int)) = false := decide_eq_false hne
                have hne2 : (v == (k : Int)) = false := beq_eq_false_iff_ne.2 hne
                clear hcell hat hnot hyes hno haY
                have q := implOrderSafe_any _ _ _ _ _ _ _ _ (l) ((k : Int) :: others k j) _ (ol.sees) (s2) (by omega) (by omega)
                rw [HSK.out, hr] at q
                have Q := Lib.hid q
                clear q HSK hr s2
                go_wp2_with fail
                refine Q.out.mono ?_
                rintro e w44 ⟨rfl, b44⟩
                have bZ := (bW.trans (bX.mono (by omega))).trans (b44.mono (by omega))
                clear Q
                go_wp2_with fail
                go_roundw
                case rel => exact ⟨k + 1, a, by omega, by go_num, by first | rfl | go_num, HA2, bZ⟩
                case measure => simp [intOf]; omega
              · clear hat hnot hyes hno
                have q := implOrderSafe_any _ _ _ _ _ _ _ _ (l) ((k : Int) :: others k j) _ (ol.sees) (s2) (by omega) (by omega)
                rw [HSK.out, hr] at q
                have Q := Lib.hid q
                clear q HSK hr s2
                go_wp2_with fail
                refine Q.out.mono ?_
                rintro e w44 ⟨rfl, b44⟩
                have bZ := (bW.trans (bX.mono (by omega))).trans (b44.mono (by omega))
                clear Q
                go_wp2_with fail
                go_roundw
                case rel => exact ⟨k + 1, a, by omega, by go_num, by first | rfl | go_num, HA2, bZ⟩
                case measure => simp [intOf]; omega
            · obtain ⟨ha1, ha2⟩ := hat hr
              have haY : a < Y.length := by rw [HNY.out]; exact ha1
              obtain ⟨gb2, gz2, hA2, hgB2, hcell⟩ := oy.sees.int_at (by omega)
              cases hA2
              have hx := hcell a haY
              rw [ha2 haY] at hx
              have HA2 : Hid ((readyTo l (k + 1)).length = a + 1) := Lib.hid (by rw [hyes hr, List.length_append]; have := HA.out; simp; omega)
              clear hcell hat hnot hyes hno ha2 haY
              have q := implOrderSafe_any _ _ _ _ _ _ _ _ (l) ((k : Int) :: others k j) _ (ol.sees) (s2) (by omega) (by omega)
              rw [HSK.out, hr] at q
              have Q := Lib.hid q
              clear q HSK hr s2
              go_wp2_with fail
              refine Q.out.mono ?_
              rintro e w44 ⟨rfl, b44⟩
              have bZ := (bW.trans (bX.mono (by omega))).trans (b44.mono (by omega))
              clear Q
              go_wp2_with fail
              go_roundw
              case rel => exact ⟨k + 1, a + 1, by omega, by go_num, by first | rfl | go_num, HA2, bZ⟩
              case measure => simp [intOf]; omega
      · have hk2 : k = nl := by omega
        subst hk2
        have haN : a = nY := by rw [← HA.out, ← HYR.out]; exact HNY.out
        subst haN
        have h0Y : 0 < Y.length := by rw [HNY.out]; omega
        obtain ⟨gb2, gz2, hA2, hgB2, hcell⟩ := oy.sees.int_at (by omega)
        cases hA2
        have hx := hcell 0 h0Y
        rw [HY0.out h0Y, Nat.add_zero] at hx
        clear hcell
        go_wp2_with fail
        go_ret
        exact ⟨rfl, hB⟩
end Go.Proofs.Ythnebfcclkebeaa
