/-
  Walk: the law FnApplyOrder returns true.
-/
import Derived.Deep.DeepCutAuto
import Derived.IntWalk
import Derived.BigQuiet
import Derived.Deep.QuietTactic
import Derived.Deep.DrawnRows
import Derived.Test.YthnebfcclkebeaaM8
import Derived.Test.YthnebfcclkebeaaM19
import Derived.Test.YthnebfcclkebeaaPlainO
import Derived.Test.YthnebfcclkebeaaA
namespace Go.Proofs.Ythnebfcclkebeaa
open Go.RowKit
attribute [local go_sem ↓] Go.wp_at_zero Go.wp_at_succ
set_option linter.unusedSimpArgs false
set_option linter.unusedVariables false
set_option maxHeartbeats 4000000 in
theorem law_FnApplyOrder (w : World) (A : Option Addr) (n c : Nat) (bs : List Int) (h : Sees w w.heap.size 1 A n c (byts bs)) (hb : ∀ v ∈ bs, 0 ≤ v ∧ v ≤ 255) :
    Calls Try.prog 8 #[.slice A n c] w (RetPure w (.bool true)) := by
  have hc1 := h.cap
  have hc2 := h.big
  by_cases hn1 : 1048576 < n
  · go_enter Try.func8, Try.ntmps8
    go_wp2_with fail
    go_ret
    exact ⟨rfl, Below.refl _ _⟩
  have hB : Below w.heap.size w w := Below.refl _ _
  go_enter Try.func8, Try.ntmps8
  go_wp2_with fail
  refine (drawApplyOrder_any _ _ _ _ _ _ h (Nat.le_refl _) hb).mono ?_
  rintro e w2 ⟨Al, nl, cl, l, Ao, co, o, rfl, ⟨ol, hnl⟩, oo, b2⟩
  have s2 := b2.size
  replace hB := below_later hB b2 (Nat.le_refl _)
  clear b2
  clear h hb
  have hlc := ol.cap
  have hoc := oo.cap
  have HLL := Lib.hid ol.sees.cmd
  have HOL := Lib.hid oo.sees.int
  obtain ⟨i0, hi0, hz0, hz1, hz2⟩ := info_parts int_info
  obtain ⟨L2, hletter⟩ : ∃ y, applyO l o = y := ⟨_, rfl⟩
  have HL2 := Lib.hid hletter
  clear hletter
  obtain ⟨nL, hnL⟩ : ∃ n, L2.length = n := ⟨_, rfl⟩
  have HNL := Lib.hid hnL
  clear hnL
  go_wp2_with fail
  have q := implApplyOrder_any _ _ _ _ _ _ _ _ (l) (o) _ (ol.sees) (oo.sees) (by omega) (by omega)
  rw [HL2.out, HNL.out] at q
  refine q.mono ?_
  clear q
  rintro e w3 ⟨Aa, ca, rfl, oa, b3⟩
  have s3 := b3.size
  replace ol := ol.below b3
  replace oo := oo.below b3
  replace hB := below_later hB b3 (Nat.le_refl _)
  clear b3
  go_wp2_with fail
  have q := specApplyOrder_any _ _ _ _ _ _ _ _ (l) (o) _ (ol.sees) (oo.sees) (by omega) (by omega)
  rw [HL2.out, HNL.out] at q
  refine q.mono ?_
  clear q
  rintro e w4 ⟨Ab, cb, rfl, ob, b4⟩
  have s4 := b4.size
  replace ol := ol.below b4
  replace oo := oo.below b4
  replace oa := oa.below b4
  replace hB := below_later hB b4 (Nat.le_refl _)
  clear b4
  by_cases hn0 : nL = 0
  · subst hn0
    go_wp2_with fail
    refine (alive_any _).mono ?_
    rintro e w5 ⟨rfl, b5⟩
    have s5 := b5.size
    replace ol := ol.below b5
    replace oo := oo.below b5
    replace oa := oa.below b5
    replace ob := ob.below b5
    replace hB := below_later hB b5 (Nat.le_refl _)
    clear b5
    go_wp2_with fail
    go_ret
    exact ⟨rfl, hB⟩
  · have hl12 : l.length ≤ 12 := by by_cases hq : l.length ≤ 12; exact hq; (exfalso; have hh := HL2.out; rw [applyO_len hq] at hh; have h2 := HNL.out; rw [← hh] at h2; simp at h2; omega)
    have hord : isOrd o l.length = true := by cases hq : isOrd o l.length with | true => rfl | false => (exfalso; have hh := HL2.out; rw [applyO_no hq] at hh; have h2 := HNL.out; rw [← hh] at h2; simp at h2; omega)
    have hnl2 : nl = nL := by rw [← HNL.out, ← HL2.out, applyO_of hl12 hord, List.length_map, HOL.out]
    subst hnl2
    have HG : Hid (∀ k (hk : k < o.length), ∃ j : Nat, o[k] = (j : Int) ∧ ∃ hj : j < l.length, L2[k]? = some l[j]) := Lib.hid (fun k hk => by have := applyO_get l o hl12 hord k hk; rw [HL2.out] at this; exact this)
    have HUP := Lib.hid (applyO_upto l hl12)
    rw [HLL.out] at HUP hl12
    have dn1 : decide (nl = 0) = false := decide_eq_false hn0
    have dn2 : ((nl : Int) == 0) = false := beq_eq_false_iff_ne.2 (by omega)
    have dn3 : decide ((nl : Int) = 0) = false := decide_eq_false (by omega)
    clear hord
    have e0 := newEmpty w4 3 1
    have z0 : (w4.alloc (.cells #[] 3)).heap.size = w4.heap.size + 1 := World.size_alloc _ _
    replace e0 := e0.wide (Nat.le_refl _) (show w4.heap.size + 1 ≤ (w4.alloc (.cells #[] 3)).heap.size by omega)
    have bn := below_new w4 (.cells #[] 3)
    have E0 := Lib.hid e0
    have BN := Lib.hid bn
    clear e0 bn
    go_upto_region 12 with fail
    go_loopw [7, 8] (fun t1 i wr => ∃ (k : Nat) (A2 : Option Addr) (c2 : Nat), k ≤ nl ∧ i = .int .i64 k ∧ t1 = .slice A2 k c2 ∧ Own wr w4.heap.size wr.heap.size 3 1 A2 k c2 (ints (upto k)) ∧ Below w4.heap.size w4 wr) (fun _ i _ => nl - (intOf i).toNat)
    case atStart => exact ⟨0, _, _, Nat.zero_le _, rfl, rfl, E0.out, BN.out⟩
    case round =>
      clear E0 BN
      obtain ⟨k, A2, c2, hk, rfl, rfl, o2, bW⟩ := hrel
      have sW := bW.size
      by_cases hlt : k < nl
      · have hko : k < o.length := by rw [HOL.out]; exact hlt
        obtain ⟨j, hj1, hj2, hj3⟩ := HG.out k hko
        obtain ⟨hkL, hkv⟩ := List.getElem?_eq_some_iff.1 hj3
        have hjn : j < nl := by rw [← HLL.out]; exact hj2
        have p1 := o2.below (below_new wr (.cells #[.int .i64 (k : Int)] 3))
        have q1 := Sees.one wr 3 (.int .i64 (k : Int))
        have B1 := below_later bW (below_new wr (.cells #[.int .i64 (k : Int)] 3)) (Nat.le_refl _)
        have S1 := B1.size
        clear o2
        have HI : Hid (ints (upto k) ++ [Value.int .i64 (k : Int)] = ints (upto (k + 1))) := Lib.hid (by rw [upto_step, ints_app]; rfl)
        generalize ints (upto k) = xs0 at *
        have i1 : (0 : Int) ≤ (k : Int) := by omega
        have i2 : (k : Int) < (nl : Int) := by omega
        have i3 : (0 : Int) ≤ (j : Int) := by omega
        have i4 : (j : Int) < (nl : Int) := by omega
        go_wp2_with (at_builtin; refine wpList_app _ rfl (.tmp 41) (.tmp 43) _ rfl 3 i0 (.int .i64 0) 1 8 Try.underlying22 hi0 hz0 hz1 hz2 rfl (by decide) _ _ _ _ _ _ rfl p1 _ _ _ _ _ rfl q1 (one_int _) (by omega) (by omega) S1 ?_; intro A3 c3 w33 o3 f3; rw [HI.out] at o3; have B3 := f3.below B1 (Nat.le_refl _) (Nat.le_refl _); obtain ⟨ba, za, hAa, hbaB, hca⟩ := (oa.sees.below B3 (by omega)).cmd_at (by omega); cases hAa; obtain ⟨ha0, ha1, ha2, ha3⟩ := hca k hkL; obtain ⟨bb, zb, hAb, hbbB, hcb⟩ := (ob.sees.below B3 (by omega)).cmd_at (by omega); cases hAb; obtain ⟨hb0, hb1, hb2, hb3⟩ := hcb k hkL; obtain ⟨bl, zl, hAl, hblB, hcl⟩ := (ol.sees.below B3 (by omega)).cmd_at (by omega); cases hAl; obtain ⟨hl0, hl1, hl2, hl3⟩ := hcl j hj2; obtain ⟨bo, zo, hAo, hboB, hco⟩ := (oo.sees.below B3 (by omega)).int_at (by omega); cases hAo; have ho0 := hco k hko; rw [hj1] at ho0; rw [hkv] at ha0 ha1 ha2 ha3 hb0 hb1 hb2 hb3; clear hca hcb hcl hco)
        skip
        generalize l[j] = e at *
        obtain ⟨v0, v1, v2, v3⟩ := e
        simp only at ha0 ha1 ha2 ha3 hb0 hb1 hb2 hb3 hl0 hl1 hl2 hl3
        go_quiet (fail)
        go_wp2_with fail
        go_roundw
        case rel => exact ⟨k + 1, _, _, by omega, by go_num, rfl, o3.drewN _, below_drewN B3 _⟩
        case measure => simp [intOf]; omega
      · have hk2 : k = nl := by omega
        rw [hk2] at o2
        have hk3 : nl = k := hk2.symm
        subst hk3
        clear hk2
        replace ol := ol.below bW
        replace oo := oo.below bW
        replace oa := oa.below bW
        replace ob := ob.below bW
        replace hB := below_later hB bW (Nat.le_refl _)
        generalize wr = wo at *
        have s2 := o2.sees
        go_wp2_with fail
        have q := implApplyOrder_any _ _ _ _ _ _ _ _ (l) (upto nl) _ (ol.sees) (s2) (by omega) (by omega)
        rw [HUP.out, HLL.out] at q
        refine q.mono ?_
        clear q
        rintro e w5 ⟨As, cs, rfl, os, b5⟩
        have s5 := b5.size
        replace ol := ol.below b5
        replace oo := oo.below b5
        replace oa := oa.below b5
        replace ob := ob.below b5
        replace hB := below_later hB b5 (Nat.le_refl _)
        clear b5
        go_upto_region 19 with fail
        go_loopw [10] (fun i wr => ∃ (k : Nat), k ≤ nl ∧ i = .int .i64 k ∧ Below w5.heap.size w5 wr) (fun i _ => nl - (intOf i).toNat)
        case atStart => exact ⟨0, Nat.zero_le _, rfl, Below.refl _ _⟩
        case round =>
          obtain ⟨k, hk4, rfl, bX⟩ := hrel
          have sX := bX.size
          by_cases hlt2 : k < nl
          · have hkl : k < l.length := by rw [HLL.out]; exact hlt2
            have i1 : (0 : Int) ≤ (k : Int) := by omega
            have i2 : (k : Int) < (nl : Int) := by omega
            obtain ⟨bs_, zs, hAs, hbsB, hcs⟩ := (os.sees.below bX (by omega)).cmd_at (by omega)
            cases hAs
            obtain ⟨ha0, ha1, ha2, ha3⟩ := hcs k hkl
            obtain ⟨bl, zl, hAl, hblB, hcl⟩ := (ol.sees.below bX (by omega)).cmd_at (by omega)
            cases hAl
            obtain ⟨hl0, hl1, hl2, hl3⟩ := hcl k hkl
            clear hcs hcl
            generalize l[k] = e at *
            obtain ⟨v0, v1, v2, v3⟩ := e
            simp only at ha0 ha1 ha2 ha3 hl0 hl1 hl2 hl3
            have dge : decide ((nl : Int) ≤ (k : Int)) = false := decide_eq_false (by omega)
            go_wp2_with fail
            go_quiet (fail)
            go_wp2_with fail
            go_roundw
            case rel => exact ⟨k + 1, by omega, by go_num, below_drewN bX _⟩
            case measure => simp [intOf]; omega
          · replace hB := below_later hB bX (Nat.le_refl _)
            go_wp2_with fail
            go_ret
            exact ⟨rfl, hB⟩
end Go.Proofs.Ythnebfcclkebeaa
