/-
  Walk: the law FnCommandsClash returns true.
-/
import Derived.Deep.DeepCutAuto
import Derived.Test.YtiibnkcdeldiaaaC10
import Derived.Test.YtiibnkcdeldiaaaC7
import Derived.Test.YtiibnkcdeldiaaaP4
import Derived.Test.YtiibnkcdeldiaaaS3
import Derived.Test.YtiibnkcdeldiaaaA
namespace Go.Proofs.Ytiibnkcdeldiaaa
open Go.RowKit
set_option linter.unusedSimpArgs false
set_option linter.unusedVariables false
set_option maxHeartbeats 4000000 in
theorem law_FnCommandsClash (w : World) (A : Option Addr) (n c : Nat) (bs : List Int) (h : Sees w w.heap.size 1 A n c (byts bs)) (hb : ∀ v ∈ bs, 0 ≤ v ∧ v ≤ 255) (A' : Option Addr) (n' c' : Nat) (bs' : List Int) (h' : Sees w w.heap.size 1 A' n' c' (byts bs')) (hb' : ∀ v ∈ bs', 0 ≤ v ∧ v ≤ 255) :
    Calls Try.prog 6 #[.slice A n c, .slice A' n' c'] w (RetPure w (.bool true)) := by
  have hc1 := h.cap
  have hc2 := h.big
  have hc3 := h'.cap
  have hc4 := h'.big
  by_cases hn : 1048576 < n
  · go_enter Try.func6, Try.ntmps6
    go_wp2_with fail
    go_ret
    exact ⟨rfl, Below.refl _ _⟩
  by_cases hn' : 1048576 < n'
  · go_enter Try.func6, Try.ntmps6
    go_wp2_with fail
    go_ret
    exact ⟨rfl, Below.refl _ _⟩
  have hB : Below w.heap.size w w := Below.refl _ _
  go_enter Try.func6, Try.ntmps6
  go_wp2_with fail
  refine (drawCommandsClash_any _ _ _ _ _ _ h (Nat.le_refl _) hb).mono ?_
  rintro e w1 ⟨k, a, cc, v, k', a', cc', v', rfl, hbd, hbd', b1⟩
  have s1 := b1.size
  replace h' := h'.below b1 hB.size
  replace hB := below_later hB b1 (Nat.le_refl _)
  clear b1
  clear h hb
  have hn2 := below_new w1 (.cells #[.int .i64 k, .int .i64 a, .int .i64 cc, .int .i64 v] 24)
  replace h' := h'.below hn2 hB.size
  replace hB := below_later hB hn2 (Nat.le_refl _)
  clear hn2
  have ra : (w1.alloc (.cells #[.int .i64 k, .int .i64 a, .int .i64 cc, .int .i64 v] 24)).heap[w1.heap.size]? = some (.cells #[.int .i64 k, .int .i64 a, .int .i64 cc, .int .i64 v] 24 (0, 0)) := heap_alloc_new _ _
  obtain ⟨ma0, ma1, ma2, ma3⟩ := cells4 ra
  have s2 : w1.heap.size < (w1.alloc (.cells #[.int .i64 k, .int .i64 a, .int .i64 cc, .int .i64 v] 24)).heap.size := Nat.lt_of_lt_of_eq (Nat.lt_succ_self _) (World.size_alloc _ _).symm
  have k3 := ma0
  have k4 := ma1
  have k5 := ma2
  have k6 := ma3
  have hn7 := below_new (w1.alloc (.cells #[.int .i64 k, .int .i64 a, .int .i64 cc, .int .i64 v] 24)) (.cells #[.int .i64 k', .int .i64 a', .int .i64 cc', .int .i64 v'] 24)
  replace h' := h'.below hn7 hB.size
  replace ra := rowKeep ra hn7
  clear ma0 ma1 ma2 ma3
  obtain ⟨ma0, ma1, ma2, ma3⟩ := cells4 ra
  replace hB := below_later hB hn7 (Nat.le_refl _)
  clear hn7
  have rb : ((w1.alloc (.cells #[.int .i64 k, .int .i64 a, .int .i64 cc, .int .i64 v] 24)).alloc (.cells #[.int .i64 k', .int .i64 a', .int .i64 cc', .int .i64 v'] 24)).heap[(w1.alloc (.cells #[.int .i64 k, .int .i64 a, .int .i64 cc, .int .i64 v] 24)).heap.size]? = some (.cells #[.int .i64 k', .int .i64 a', .int .i64 cc', .int .i64 v'] 24 (0, 0)) := heap_alloc_new _ _
  obtain ⟨mb0, mb1, mb2, mb3⟩ := cells4 rb
  have s7 : (w1.alloc (.cells #[.int .i64 k, .int .i64 a, .int .i64 cc, .int .i64 v] 24)).heap.size < ((w1.alloc (.cells #[.int .i64 k, .int .i64 a, .int .i64 cc, .int .i64 v] 24)).alloc (.cells #[.int .i64 k', .int .i64 a', .int .i64 cc', .int .i64 v'] 24)).heap.size := Nat.lt_of_lt_of_eq (Nat.lt_succ_self _) (World.size_alloc _ _).symm
  rw [World.size_alloc] at rb
  clear mb0 mb1 mb2 mb3
  obtain ⟨mb0, mb1, mb2, mb3⟩ := cells4 rb
  go_upto_region 4 with fail
  clear k3 k4 k5 k6
  generalize (w1.alloc (.cells #[.int .i64 k, .int .i64 a, .int .i64 cc, .int .i64 v] 24)) = u2 at *
  generalize (u2.alloc (.cells #[.int .i64 k', .int .i64 a', .int .i64 cc', .int .i64 v'] 24)) = u7 at *
  obtain ⟨i0, hi0, hz0, hz1, hz2⟩ := info_parts int_info
  cases hc : clash ⟨k, a, cc, v⟩ ⟨k', a', cc', v'⟩
  · have HC := Lib.hid hc
    have HCC := Lib.hid (clash_comm ⟨k', a', cc', v'⟩ ⟨k, a, cc, v⟩)
    have HN := Lib.hid hc
    clear hc
    go_wp2_with fail
    have q := implCommandsClash_any ⟨k, a, cc, v⟩ ⟨k', a', cc', v'⟩ u7
    rw [HC.out] at q
    try simp only [cmdV] at q
    refine q.mono ?_
    clear q
    rintro e w8 ⟨rfl, b8⟩
    have s8 := b8.size
    replace h' := h'.below b8 hB.size
    replace ra := rowKeep ra b8
    clear ma0 ma1 ma2 ma3
    obtain ⟨ma0, ma1, ma2, ma3⟩ := cells4 ra
    replace rb := rowKeep rb b8
    clear mb0 mb1 mb2 mb3
    obtain ⟨mb0, mb1, mb2, mb3⟩ := cells4 rb
    replace hB := below_later hB b8 (Nat.le_refl _)
    clear b8
    go_wp2_with fail
    have q := specCommandsClash_any ⟨k, a, cc, v⟩ ⟨k', a', cc', v'⟩ w8
    rw [HC.out] at q
    try simp only [cmdV] at q
    refine q.mono ?_
    clear q
    rintro e w9 ⟨rfl, b9⟩
    have s9 := b9.size
    replace h' := h'.below b9 hB.size
    replace ra := rowKeep ra b9
    clear ma0 ma1 ma2 ma3
    obtain ⟨ma0, ma1, ma2, ma3⟩ := cells4 ra
    replace rb := rowKeep rb b9
    clear mb0 mb1 mb2 mb3
    obtain ⟨mb0, mb1, mb2, mb3⟩ := cells4 rb
    replace hB := below_later hB b9 (Nat.le_refl _)
    clear b9
    go_wp2_with fail
    have q := implCommandsClash_any ⟨k', a', cc', v'⟩ ⟨k, a, cc, v⟩ w9
    rw [HCC.out, HC.out] at q
    try simp only [cmdV] at q
    refine q.mono ?_
    clear q
    rintro e w10 ⟨rfl, b10⟩
    have s10 := b10.size
    replace h' := h'.below b10 hB.size
    replace ra := rowKeep ra b10
    clear ma0 ma1 ma2 ma3
    obtain ⟨ma0, ma1, ma2, ma3⟩ := cells4 ra
    replace rb := rowKeep rb b10
    clear mb0 mb1 mb2 mb3
    obtain ⟨mb0, mb1, mb2, mb3⟩ := cells4 rb
    replace hB := below_later hB b10 (Nat.le_refl _)
    clear b10
    go_wp2_with fail
    refine (drawDiskSum_any _ _ _ _ _ _ h' hB.size hb').mono ?_
    rintro e w11 ⟨Ad, nd, cd, d, rfl, od, hnd, b11⟩
    clear h' hb'
    have s11 := b11.size
    obtain rfl := od.sees.int
    have hcd := od.cap
    have HBL := Lib.hid b11
    clear b11
    clear ma0 ma1 ma2 ma3
    clear mb0 mb1 mb2 mb3
    have HST := Lib.hid od
    clear od
    go_wp2_with fail
    go_loopw [8] (fun t wr => ∃ (A : Option Addr) (c : Nat) (D : List Int), D.length ≤ 65 ∧ t = .slice A D.length c ∧ Own wr w10.heap.size wr.heap.size 3 1 A D.length c (ints D) ∧ Below w10.heap.size w10 wr) (fun t _ => match t with | .slice _ n _ => 20 - n | _ => 0)
    case atStart => exact ⟨Ad, cd, d, hnd, rfl, HST.out, HBL.out⟩
    case round =>
      clear HST HBL
      obtain ⟨Ap, cp, D, hD, rfl, op, bel⟩ := hrel
      have sw := bel.size
      have hcp := op.cap
      by_cases hlt : D.length < 20
      · have hap : ints D ++ [.int .i64 (D.length : Int)] = ints (D ++ [(D.length : Int)]) := by simp [ints]
        have HAP := Lib.hid hap
        clear hap
        have g1 := below_new wr (.cells #[.int .i64 (D.length : Int)] 3)
        have p1 := op.below g1
        skip
        go_wp2_with (at_builtin; refine wpList_app _ rfl (.tmp 48) (.tmp 51) _ rfl 3 i0 (.int .i64 0) 1 8 Try.underlying35 hi0 hz0 hz1 hz2 rfl (by decide) _ _ _ _ _ _ rfl p1 _ _ _ _ _ rfl (Sees.one wr 3 (.int .i64 (D.length : Int))) (one_int _) (by omega) (by omega) (by simp; omega) ?_; intro A2 c2 w2 o2 f2; rw [HAP.out] at o2; have B2 := f2.below (below_later bel g1 (Nat.le_refl _)) (Nat.le_refl _) (Nat.le_refl _); clear f2 p1 op g1 bel)
        generalize hDD : D ++ [(D.length : Int)] = D' at *
        have hl2 : D'.length = D.length + 1 := by rw [← hDD]; simp
        have HL2 := Lib.hid hl2
        clear hl2 hDD
        go_roundw
        case rel => exact ⟨A2, c2, D', by rw [HL2.out]; omega, by rw [HL2.out], by rw [HL2.out]; exact o2, B2⟩
        case measure => simp; omega
      · skip
        replace ra := rowKeep ra bel
        obtain ⟨ma0, ma1, ma2, ma3⟩ := cells4 ra
        replace rb := rowKeep rb bel
        obtain ⟨mb0, mb1, mb2, mb3⟩ := cells4 rb
        replace hB := below_later hB bel (Nat.le_refl _)
        have hnlt : decide ((D.length : Int) < 20) = false := decide_eq_false (by omega)
        cases hd : dval D
        · have HD := Lib.hid hd
          clear hd
          go_wp2_with fail
          have q := specDiskValid_any Ap D.length cp _ D wr op.sees
          rw [HD.out] at q
          refine q.mono ?_
          clear q
          rintro e w' ⟨rfl, rfl⟩
          go_wp2_with fail
          refine (alive_any _).mono ?_
          rintro e w12 ⟨rfl, b12⟩
          have s12 := b12.size
          replace op := op.below b12
          replace ra := rowKeep ra b12
          clear ma0 ma1 ma2 ma3
          obtain ⟨ma0, ma1, ma2, ma3⟩ := cells4 ra
          replace rb := rowKeep rb b12
          clear mb0 mb1 mb2 mb3
          obtain ⟨mb0, mb1, mb2, mb3⟩ := cells4 rb
          replace hB := below_later hB b12 (Nat.le_refl _)
          clear b12
          go_wp2_with fail
          go_ret
          exact ⟨rfl, hB⟩
        · cases ha : cval ⟨k, a, cc, v⟩ (D.length : Int)
          · have HD := Lib.hid hd
            have HA := Lib.hid ha
            clear hd ha
            go_wp2_with fail
            have q := specDiskValid_any Ap D.length cp _ D wr op.sees
            rw [HD.out] at q
            refine q.mono ?_
            clear q
            rintro e w' ⟨rfl, rfl⟩
            go_wp2_with fail
            have q := specCommandValid_any k a cc v (D.length : Int) wr (by omega)
            rw [HA.out] at q
            try simp only [cmdV] at q
            refine q.mono ?_
            clear q
            rintro e w12 ⟨rfl, b12⟩
            have s12 := b12.size
            replace op := op.below b12
            replace ra := rowKeep ra b12
            clear ma0 ma1 ma2 ma3
            obtain ⟨ma0, ma1, ma2, ma3⟩ := cells4 ra
            replace rb := rowKeep rb b12
            clear mb0 mb1 mb2 mb3
            obtain ⟨mb0, mb1, mb2, mb3⟩ := cells4 rb
            replace hB := below_later hB b12 (Nat.le_refl _)
            clear b12
            go_wp2_with fail
            refine (alive_any _).mono ?_
            rintro e w13 ⟨rfl, b13⟩
            have s13 := b13.size
            replace op := op.below b13
            replace ra := rowKeep ra b13
            clear ma0 ma1 ma2 ma3
            obtain ⟨ma0, ma1, ma2, ma3⟩ := cells4 ra
            replace rb := rowKeep rb b13
            clear mb0 mb1 mb2 mb3
            obtain ⟨mb0, mb1, mb2, mb3⟩ := cells4 rb
            replace hB := below_later hB b13 (Nat.le_refl _)
            clear b13
            go_wp2_with fail
            go_ret
            exact ⟨rfl, hB⟩
          · cases hbv : cval ⟨k', a', cc', v'⟩ (D.length : Int)
            · have HD := Lib.hid hd
              have HA := Lib.hid ha
              have HBV := Lib.hid hbv
              clear hd ha hbv
              go_wp2_with fail
              have q := specDiskValid_any Ap D.length cp _ D wr op.sees
              rw [HD.out] at q
              refine q.mono ?_
              clear q
              rintro e w' ⟨rfl, rfl⟩
              go_wp2_with fail
              have q := specCommandValid_any k a cc v (D.length : Int) wr (by omega)
              rw [HA.out] at q
              try simp only [cmdV] at q
              refine q.mono ?_
              clear q
              rintro e w12 ⟨rfl, b12⟩
              have s12 := b12.size
              replace op := op.below b12
              replace ra := rowKeep ra b12
              clear ma0 ma1 ma2 ma3
              obtain ⟨ma0, ma1, ma2, ma3⟩ := cells4 ra
              replace rb := rowKeep rb b12
              clear mb0 mb1 mb2 mb3
              obtain ⟨mb0, mb1, mb2, mb3⟩ := cells4 rb
              replace hB := below_later hB b12 (Nat.le_refl _)
              clear b12
              go_wp2_with fail
              have q := specCommandValid_any k' a' cc' v' (D.length : Int) w12 (by omega)
              rw [HBV.out] at q
              try simp only [cmdV] at q
              refine q.mono ?_
              clear q
              rintro e w13 ⟨rfl, b13⟩
              have s13 := b13.size
              replace op := op.below b13
              replace ra := rowKeep ra b13
              clear ma0 ma1 ma2 ma3
              obtain ⟨ma0, ma1, ma2, ma3⟩ := cells4 ra
              replace rb := rowKeep rb b13
              clear mb0 mb1 mb2 mb3
              obtain ⟨mb0, mb1, mb2, mb3⟩ := cells4 rb
              replace hB := below_later hB b13 (Nat.le_refl _)
              clear b13
              go_wp2_with fail
              refine (alive_any _).mono ?_
              rintro e w14 ⟨rfl, b14⟩
              have s14 := b14.size
              replace op := op.below b14
              replace ra := rowKeep ra b14
              clear ma0 ma1 ma2 ma3
              obtain ⟨ma0, ma1, ma2, ma3⟩ := cells4 ra
              replace rb := rowKeep rb b14
              clear mb0 mb1 mb2 mb3
              obtain ⟨mb0, mb1, mb2, mb3⟩ := cells4 rb
              replace hB := below_later hB b14 (Nat.le_refl _)
              clear b14
              go_wp2_with fail
              go_ret
              exact ⟨rfl, hB⟩
            · have h64 := ((dval_iff D).1 hd).1
              have hla := xdisk_len D ⟨k, a, cc, v⟩ ha
              have hlb := xdisk_len D ⟨k', a', cc', v'⟩ hbv
              have hva := xdisk_val D ⟨k, a, cc, v⟩ hd ha
              have hvb := xdisk_val D ⟨k', a', cc', v'⟩ hd hbv
              have hcm := xdisk_comm D ⟨k, a, cc, v⟩ ⟨k', a', cc', v'⟩ ha hbv HN.out
              have hra := xread_comm D ⟨k, a, cc, v⟩ ⟨k', a', cc', v'⟩ ha hbv HN.out
              have hrb := xread_comm D ⟨k', a', cc', v'⟩ ⟨k, a, cc, v⟩ hbv ha (HCC.out.trans HN.out)
              have e1 := exD_of hd ha
              have e2 := exR_of hd ha
              have e3 := exD_of hd hbv
              have e4 := exR_of hd hbv
              have e5 := exD_of (c := ⟨k', a', cc', v'⟩) hva (by rw [hla]; exact hbv)
              have e6 := exR_of (c := ⟨k', a', cc', v'⟩) hva (by rw [hla]; exact hbv)
              have e7 := exD_of (c := ⟨k, a, cc, v⟩) hvb (by rw [hlb]; exact ha)
              have e8 := exR_of (c := ⟨k, a, cc, v⟩) hvb (by rw [hlb]; exact ha)
              rw [hcm] at e5
              rw [hrb] at e6
              rw [hra] at e8
              generalize xdisk (xdisk D ⟨k', a', cc', v'⟩) ⟨k, a, cc, v⟩ = Z at *
              generalize xdisk D ⟨k, a, cc, v⟩ = X at *
              generalize xdisk D ⟨k', a', cc', v'⟩ = Y at *
              generalize xread D ⟨k, a, cc, v⟩ = P at *
              generalize xread D ⟨k', a', cc', v'⟩ = Q at *
              have E1 := Lib.hid e1
              have E2 := Lib.hid e2
              have E3 := Lib.hid e3
              have E4 := Lib.hid e4
              have E5 := Lib.hid e5
              have E6 := Lib.hid e6
              have E7 := Lib.hid e7
              have E8 := Lib.hid e8
              have HD := Lib.hid hd
              have HA := Lib.hid ha
              have HBV := Lib.hid hbv
              have hx64 : X.length ≤ 64 := by omega
              have hy64 : Y.length ≤ 64 := by omega
              clear hd ha hbv hla hlb hva hvb hcm hra hrb e1 e2 e3 e4 e5 e6 e7 e8
              go_wp2_with fail
              have q := specDiskValid_any Ap D.length cp _ D wr op.sees
              rw [HD.out] at q
              refine q.mono ?_
              clear q
              rintro e w' ⟨rfl, rfl⟩
              go_wp2_with fail
              have q := specCommandValid_any k a cc v (D.length : Int) wr (by omega)
              rw [HA.out] at q
              try simp only [cmdV] at q
              refine q.mono ?_
              clear q
              rintro e w12 ⟨rfl, b12⟩
              have s12 := b12.size
              replace op := op.below b12
              replace ra := rowKeep ra b12
              clear ma0 ma1 ma2 ma3
              obtain ⟨ma0, ma1, ma2, ma3⟩ := cells4 ra
              replace rb := rowKeep rb b12
              clear mb0 mb1 mb2 mb3
              obtain ⟨mb0, mb1, mb2, mb3⟩ := cells4 rb
              replace hB := below_later hB b12 (Nat.le_refl _)
              clear b12
              go_wp2_with fail
              have q := specCommandValid_any k' a' cc' v' (D.length : Int) w12 (by omega)
              rw [HBV.out] at q
              try simp only [cmdV] at q
              refine q.mono ?_
              clear q
              rintro e w13 ⟨rfl, b13⟩
              have s13 := b13.size
              replace op := op.below b13
              replace ra := rowKeep ra b13
              clear ma0 ma1 ma2 ma3
              obtain ⟨ma0, ma1, ma2, ma3⟩ := cells4 ra
              replace rb := rowKeep rb b13
              clear mb0 mb1 mb2 mb3
              obtain ⟨mb0, mb1, mb2, mb3⟩ := cells4 rb
              replace hB := below_later hB b13 (Nat.le_refl _)
              clear b13
              go_wp2_with fail
              have q := implExecuteCommand_any Ap D.length cp _ D ⟨k, a, cc, v⟩ w13 op.sees (by omega)
              rw [E1.out] at q
              rw [E2.out] at q
              try simp only [cmdV] at q
              refine q.mono ?_
              clear q
              rintro e w14 ⟨Ax, cx, Am, cm, mid14, rfl, ox, om, p14, q14, b14⟩
              have s14 := b14.size
              replace op := op.below b14
              replace ra := rowKeep ra b14
              clear ma0 ma1 ma2 ma3
              obtain ⟨ma0, ma1, ma2, ma3⟩ := cells4 ra
              replace rb := rowKeep rb b14
              clear mb0 mb1 mb2 mb3
              obtain ⟨mb0, mb1, mb2, mb3⟩ := cells4 rb
              replace hB := below_later hB b14 (Nat.le_refl _)
              clear b14
              go_wp2_with fail
              have q := implExecuteCommand_any Ax X.length cx _ X ⟨k', a', cc', v'⟩ w14 ox.sees (by omega)
              rw [E5.out] at q
              rw [E6.out] at q
              try simp only [cmdV] at q
              refine q.mono ?_
              clear q
              rintro e w15 ⟨Ay, cy, Aq, cq, mid15, rfl, oy, oq, p15, q15, b15⟩
              have s15 := b15.size
              replace op := op.below b15
              replace ox := ox.below b15
              replace om := om.below b15
              replace ra := rowKeep ra b15
              clear ma0 ma1 ma2 ma3
              obtain ⟨ma0, ma1, ma2, ma3⟩ := cells4 ra
              replace rb := rowKeep rb b15
              clear mb0 mb1 mb2 mb3
              obtain ⟨mb0, mb1, mb2, mb3⟩ := cells4 rb
              replace hB := below_later hB b15 (Nat.le_refl _)
              clear b15
              go_wp2_with fail
              have q := implExecuteCommand_any Ap D.length cp _ D ⟨k', a', cc', v'⟩ w15 op.sees (by omega)
              rw [E3.out] at q
              rw [E4.out] at q
              try simp only [cmdV] at q
              refine q.mono ?_
              clear q
              rintro e w16 ⟨As, cs, At, ct, mid16, rfl, os, ot, p16, q16, b16⟩
              have s16 := b16.size
              replace op := op.below b16
              replace ox := ox.below b16
              replace om := om.below b16
              replace oy := oy.below b16
              replace oq := oq.below b16
              replace ra := rowKeep ra b16
              clear ma0 ma1 ma2 ma3
              obtain ⟨ma0, ma1, ma2, ma3⟩ := cells4 ra
              replace rb := rowKeep rb b16
              clear mb0 mb1 mb2 mb3
              obtain ⟨mb0, mb1, mb2, mb3⟩ := cells4 rb
              replace hB := below_later hB b16 (Nat.le_refl _)
              clear b16
              go_wp2_with fail
              have q := implExecuteCommand_any As Y.length cs _ Y ⟨k, a, cc, v⟩ w16 os.sees (by omega)
              rw [E7.out] at q
              rw [E8.out] at q
              try simp only [cmdV] at q
              refine q.mono ?_
              clear q
              rintro e w17 ⟨Au, cu, Az, cz, mid17, rfl, ou, oz, p17, q17, b17⟩
              have s17 := b17.size
              replace op := op.below b17
              replace ox := ox.below b17
              replace om := om.below b17
              replace oy := oy.below b17
              replace oq := oq.below b17
              replace os := os.below b17
              replace ot := ot.below b17
              replace ra := rowKeep ra b17
              clear ma0 ma1 ma2 ma3
              obtain ⟨ma0, ma1, ma2, ma3⟩ := cells4 ra
              replace rb := rowKeep rb b17
              clear mb0 mb1 mb2 mb3
              obtain ⟨mb0, mb1, mb2, mb3⟩ := cells4 rb
              replace hB := below_later hB b17 (Nat.le_refl _)
              clear b17
              go_wp2_with fail
              refine (sameInts_t _ _ _ _ _ _ _ _ _ _ oy.sees ou.sees).mono ?_
              rintro e w18 ⟨rfl, b18⟩
              have s18 := b18.size
              replace op := op.below b18
              replace ox := ox.below b18
              replace om := om.below b18
              replace oy := oy.below b18
              replace oq := oq.below b18
              replace os := os.below b18
              replace ot := ot.below b18
              replace ou := ou.below b18
              replace oz := oz.below b18
              replace ra := rowKeep ra b18
              clear ma0 ma1 ma2 ma3
              obtain ⟨ma0, ma1, ma2, ma3⟩ := cells4 ra
              replace rb := rowKeep rb b18
              clear mb0 mb1 mb2 mb3
              obtain ⟨mb0, mb1, mb2, mb3⟩ := cells4 rb
              replace hB := below_later hB b18 (Nat.le_refl _)
              clear b18
              go_wp2_with fail
              refine (sameInts_t _ _ _ _ _ _ _ _ _ _ om.sees oz.sees).mono ?_
              rintro e w19 ⟨rfl, b19⟩
              have s19 := b19.size
              replace op := op.below b19
              replace ox := ox.below b19
              replace om := om.below b19
              replace oy := oy.below b19
              replace oq := oq.below b19
              replace os := os.below b19
              replace ot := ot.below b19
              replace ou := ou.below b19
              replace oz := oz.below b19
              replace ra := rowKeep ra b19
              clear ma0 ma1 ma2 ma3
              obtain ⟨ma0, ma1, ma2, ma3⟩ := cells4 ra
              replace rb := rowKeep rb b19
              clear mb0 mb1 mb2 mb3
              obtain ⟨mb0, mb1, mb2, mb3⟩ := cells4 rb
              replace hB := below_later hB b19 (Nat.le_refl _)
              clear b19
              go_wp2_with fail
              refine (sameInts_t _ _ _ _ _ _ _ _ _ _ oq.sees ot.sees).mono ?_
              rintro e w20 ⟨rfl, b20⟩
              have s20 := b20.size
              replace op := op.below b20
              replace ox := ox.below b20
              replace om := om.below b20
              replace oy := oy.below b20
              replace oq := oq.below b20
              replace os := os.below b20
              replace ot := ot.below b20
              replace ou := ou.below b20
              replace oz := oz.below b20
              replace ra := rowKeep ra b20
              clear ma0 ma1 ma2 ma3
              obtain ⟨ma0, ma1, ma2, ma3⟩ := cells4 ra
              replace rb := rowKeep rb b20
              clear mb0 mb1 mb2 mb3
              obtain ⟨mb0, mb1, mb2, mb3⟩ := cells4 rb
              replace hB := below_later hB b20 (Nat.le_refl _)
              clear b20
              go_wp2_with fail
              go_ret
              exact ⟨rfl, hB⟩
  · have HC := Lib.hid hc
    have HCC := Lib.hid (clash_comm ⟨k', a', cc', v'⟩ ⟨k, a, cc, v⟩)
    clear hc
    go_wp2_with fail
    have q := implCommandsClash_any ⟨k, a, cc, v⟩ ⟨k', a', cc', v'⟩ u7
    rw [HC.out] at q
    try simp only [cmdV] at q
    refine q.mono ?_
    clear q
    rintro e w8 ⟨rfl, b8⟩
    have s8 := b8.size
    replace h' := h'.below b8 hB.size
    replace ra := rowKeep ra b8
    clear ma0 ma1 ma2 ma3
    obtain ⟨ma0, ma1, ma2, ma3⟩ := cells4 ra
    replace rb := rowKeep rb b8
    clear mb0 mb1 mb2 mb3
    obtain ⟨mb0, mb1, mb2, mb3⟩ := cells4 rb
    replace hB := below_later hB b8 (Nat.le_refl _)
    clear b8
    go_wp2_with fail
    have q := specCommandsClash_any ⟨k, a, cc, v⟩ ⟨k', a', cc', v'⟩ w8
    rw [HC.out] at q
    try simp only [cmdV] at q
    refine q.mono ?_
    clear q
    rintro e w9 ⟨rfl, b9⟩
    have s9 := b9.size
    replace h' := h'.below b9 hB.size
    replace ra := rowKeep ra b9
    clear ma0 ma1 ma2 ma3
    obtain ⟨ma0, ma1, ma2, ma3⟩ := cells4 ra
    replace rb := rowKeep rb b9
    clear mb0 mb1 mb2 mb3
    obtain ⟨mb0, mb1, mb2, mb3⟩ := cells4 rb
    replace hB := below_later hB b9 (Nat.le_refl _)
    clear b9
    go_wp2_with fail
    have q := implCommandsClash_any ⟨k', a', cc', v'⟩ ⟨k, a, cc, v⟩ w9
    rw [HCC.out, HC.out] at q
    try simp only [cmdV] at q
    refine q.mono ?_
    clear q
    rintro e w10 ⟨rfl, b10⟩
    have s10 := b10.size
    replace h' := h'.below b10 hB.size
    replace ra := rowKeep ra b10
    clear ma0 ma1 ma2 ma3
    obtain ⟨ma0, ma1, ma2, ma3⟩ := cells4 ra
    replace rb := rowKeep rb b10
    clear mb0 mb1 mb2 mb3
    obtain ⟨mb0, mb1, mb2, mb3⟩ := cells4 rb
    replace hB := below_later hB b10 (Nat.le_refl _)
    clear b10
    go_wp2_with fail
    refine (drawDiskSum_any _ _ _ _ _ _ h' hB.size hb').mono ?_
    rintro e w11 ⟨Ad, nd, cd, d, rfl, od, hnd, b11⟩
    clear h' hb'
    have s11 := b11.size
    obtain rfl := od.sees.int
    have hcd := od.cap
    have HBL := Lib.hid b11
    clear b11
    clear ma0 ma1 ma2 ma3
    clear mb0 mb1 mb2 mb3
    have HST := Lib.hid od
    clear od
    go_wp2_with fail
    go_loopw [8] (fun t wr => ∃ (A : Option Addr) (c : Nat) (D : List Int), D.length ≤ 65 ∧ t = .slice A D.length c ∧ Own wr w10.heap.size wr.heap.size 3 1 A D.length c (ints D) ∧ Below w10.heap.size w10 wr) (fun t _ => match t with | .slice _ n _ => 20 - n | _ => 0)
    case atStart => exact ⟨Ad, cd, d, hnd, rfl, HST.out, HBL.out⟩
    case round =>
      clear HST HBL
      obtain ⟨Ap, cp, D, hD, rfl, op, bel⟩ := hrel
      have sw := bel.size
      have hcp := op.cap
      by_cases hlt : D.length < 20
      · have hap : ints D ++ [.int .i64 (D.length : Int)] = ints (D ++ [(D.length : Int)]) := by simp [ints]
        have HAP := Lib.hid hap
        clear hap
        have g1 := below_new wr (.cells #[.int .i64 (D.length : Int)] 3)
        have p1 := op.below g1
        skip
        go_wp2_with (at_builtin; refine wpList_app _ rfl (.tmp 48) (.tmp 51) _ rfl 3 i0 (.int .i64 0) 1 8 Try.underlying35 hi0 hz0 hz1 hz2 rfl (by decide) _ _ _ _ _ _ rfl p1 _ _ _ _ _ rfl (Sees.one wr 3 (.int .i64 (D.length : Int))) (one_int _) (by omega) (by omega) (by simp; omega) ?_; intro A2 c2 w2 o2 f2; rw [HAP.out] at o2; have B2 := f2.below (below_later bel g1 (Nat.le_refl _)) (Nat.le_refl _) (Nat.le_refl _); clear f2 p1 op g1 bel)
        generalize hDD : D ++ [(D.length : Int)] = D' at *
        have hl2 : D'.length = D.length + 1 := by rw [← hDD]; simp
        have HL2 := Lib.hid hl2
        clear hl2 hDD
        go_roundw
        case rel => exact ⟨A2, c2, D', by rw [HL2.out]; omega, by rw [HL2.out], by rw [HL2.out]; exact o2, B2⟩
        case measure => simp; omega
      · skip
        replace ra := rowKeep ra bel
        obtain ⟨ma0, ma1, ma2, ma3⟩ := cells4 ra
        replace rb := rowKeep rb bel
        obtain ⟨mb0, mb1, mb2, mb3⟩ := cells4 rb
        replace hB := below_later hB bel (Nat.le_refl _)
        have hnlt : decide ((D.length : Int) < 20) = false := decide_eq_false (by omega)
        go_wp2_with fail
        refine (alive_any _).mono ?_
        rintro e w12 ⟨rfl, b12⟩
        have s12 := b12.size
        replace op := op.below b12
        replace ra := rowKeep ra b12
        clear ma0 ma1 ma2 ma3
        obtain ⟨ma0, ma1, ma2, ma3⟩ := cells4 ra
        replace rb := rowKeep rb b12
        clear mb0 mb1 mb2 mb3
        obtain ⟨mb0, mb1, mb2, mb3⟩ := cells4 rb
        replace hB := below_later hB b12 (Nat.le_refl _)
        clear b12
        go_wp2_with fail
        go_ret
        exact ⟨rfl, hB⟩
end Go.Proofs.Ytiibnkcdeldiaaa
