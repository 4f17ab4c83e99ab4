/-
  Walk: the law FnCommandTrim returns true.
-/
import Derived.Deep.DeepCutAuto
import Derived.Test.YtiibnkcdeldiaaaC10
import Derived.Test.YtiibnkcdeldiaaaC7
import Derived.Test.YtiibnkcdeldiaaaA
namespace Go.Proofs.Ytiibnkcdeldiaaa
open Go.RowKit
set_option linter.unusedSimpArgs false
set_option linter.unusedVariables false
set_option maxHeartbeats 4000000 in
theorem law_FnCommandTrim (w : World) (A : Option Addr) (n c : Nat) (bs : List Int) (h : Sees w w.heap.size 1 A n c (byts bs)) (hb : ∀ v ∈ bs, 0 ≤ v ∧ v ≤ 255) :
    Calls Try.prog 5 #[.slice A n c] w (RetPure w (.bool true)) := by
  have hc1 := h.cap
  have hc2 := h.big
  by_cases hn : 1048576 < n
  · go_enter Try.func5, Try.ntmps5
    go_wp2_with fail
    go_ret
    exact ⟨rfl, Below.refl _ _⟩
  have hB : Below w.heap.size w w := Below.refl _ _
  go_enter Try.func5, Try.ntmps5
  go_wp2_with fail
  refine (drawExecuteCommand_any _ _ _ _ _ _ h (Nat.le_refl _) hb).mono ?_
  rintro e w1 ⟨Ad, nd, cd, d, k, a, cc, v, rfl, ⟨od, hnd⟩, hbd, b1⟩
  have s1 := b1.size
  replace hB := below_later hB b1 (Nat.le_refl _)
  clear b1
  clear h hb
  obtain rfl := od.sees.int
  have hcd := od.cap
  have hn2 := below_new w1 (.cells #[.int .i64 k, .int .i64 a, .int .i64 cc, .int .i64 v] 24)
  replace od := od.below hn2
  replace hB := below_later hB hn2 (Nat.le_refl _)
  clear hn2
  have rc : (w1.alloc (.cells #[.int .i64 k, .int .i64 a, .int .i64 cc, .int .i64 v] 24)).heap[w1.heap.size]? = some (.cells #[.int .i64 k, .int .i64 a, .int .i64 cc, .int .i64 v] 24 (0, 0)) := heap_alloc_new _ _
  obtain ⟨mc0, mc1, mc2, mc3⟩ := cells4 rc
  have s2 : w1.heap.size < (w1.alloc (.cells #[.int .i64 k, .int .i64 a, .int .i64 cc, .int .i64 v] 24)).heap.size := by rw [World.size_alloc]; exact Nat.lt_succ_self _
  cases hd : dval d
  · have HD := Lib.hid hd
    have HX : (dval d && cval ⟨k, a, cc, v⟩ d.length) = false := by rw [hd]; rfl
    clear hd
    clear HX
    go_wp2_with fail
    generalize (w1.alloc (.cells #[.int .i64 k, .int .i64 a, .int .i64 cc, .int .i64 v] 24)) = u2 at *
    have q := specDiskValid_any Ad d.length cd _ d u2 od.sees
    rw [HD.out] at q
    refine q.mono ?_
    clear q
    rintro e w' ⟨rfl, rfl⟩
    go_wp2_with fail
    refine (alive_any _).mono ?_
    rintro e w3 ⟨rfl, b3⟩
    have s3 := b3.size
    replace od := od.below b3
    replace rc := rowKeep rc b3
    clear mc0 mc1 mc2 mc3
    obtain ⟨mc0, mc1, mc2, mc3⟩ := cells4 rc
    replace hB := below_later hB b3 (Nat.le_refl _)
    clear b3
    go_wp2_with fail
    go_ret
    exact ⟨rfl, hB⟩
  · have HD := Lib.hid hd
    cases hv : cval ⟨k, a, cc, v⟩ (d.length : Int)
    · have HV := Lib.hid hv
      have HX : (dval d && cval ⟨k, a, cc, v⟩ d.length) = false := by rw [hv, Bool.and_false]
      clear hd hv
      clear HX
      go_wp2_with fail
      generalize (w1.alloc (.cells #[.int .i64 k, .int .i64 a, .int .i64 cc, .int .i64 v] 24)) = u2 at *
      have q := specDiskValid_any Ad d.length cd _ d u2 od.sees
      rw [HD.out] at q
      refine q.mono ?_
      clear q
      rintro e w' ⟨rfl, rfl⟩
      go_wp2_with fail
      have q := specCommandValid_any k a cc v (d.length : Int) u2 (by omega)
      rw [HV.out] at q
      try simp only [cmdV] at q
      refine q.mono ?_
      clear q
      rintro e w3 ⟨rfl, b3⟩
      have s3 := b3.size
      replace od := od.below b3
      replace rc := rowKeep rc b3
      clear mc0 mc1 mc2 mc3
      obtain ⟨mc0, mc1, mc2, mc3⟩ := cells4 rc
      replace hB := below_later hB b3 (Nat.le_refl _)
      clear b3
      go_wp2_with fail
      refine (alive_any _).mono ?_
      rintro e w4 ⟨rfl, b4⟩
      have s4 := b4.size
      replace od := od.below b4
      replace rc := rowKeep rc b4
      clear mc0 mc1 mc2 mc3
      obtain ⟨mc0, mc1, mc2, mc3⟩ := cells4 rc
      replace hB := below_later hB b4 (Nat.le_refl _)
      clear b4
      go_wp2_with fail
      go_ret
      exact ⟨rfl, hB⟩
    · have HV := Lib.hid hv
      by_cases hk4 : k = 4
      · have hb4 : (k == 4) = true := beq_iff_eq.2 hk4
        clear hk4 hd hv
        go_wp2_with fail
        generalize (w1.alloc (.cells #[.int .i64 k, .int .i64 a, .int .i64 cc, .int .i64 v] 24)) = u2 at *
        have q := specDiskValid_any Ad d.length cd _ d u2 od.sees
        rw [HD.out] at q
        refine q.mono ?_
        clear q
        rintro e w' ⟨rfl, rfl⟩
        go_wp2_with fail
        have q := specCommandValid_any k a cc v (d.length : Int) u2 (by omega)
        rw [HV.out] at q
        try simp only [cmdV] at q
        refine q.mono ?_
        clear q
        rintro e w3 ⟨rfl, b3⟩
        have s3 := b3.size
        replace od := od.below b3
        replace rc := rowKeep rc b3
        clear mc0 mc1 mc2 mc3
        obtain ⟨mc0, mc1, mc2, mc3⟩ := cells4 rc
        replace hB := below_later hB b3 (Nat.le_refl _)
        clear b3
        go_wp2_with fail
        refine (alive_any _).mono ?_
        rintro e w4 ⟨rfl, b4⟩
        have s4 := b4.size
        replace od := od.below b4
        replace rc := rowKeep rc b4
        clear mc0 mc1 mc2 mc3
        obtain ⟨mc0, mc1, mc2, mc3⟩ := cells4 rc
        replace hB := below_later hB b4 (Nat.le_refl _)
        clear b4
        go_wp2_with fail
        go_ret
        exact ⟨rfl, hB⟩
      · have ht := cval_trim _ _ hv hk4
        simp only at ht
        have HE2 := Lib.hid (show exD d ⟨2, a, cc, 0⟩ = exD d ⟨3, a, cc, 0⟩ by rw [exD_of hd ht.1, exD_of hd ht.2, xdisk_trim])
        clear ht hd hv
        have hb4 : (k == 4) = false := beq_eq_false_iff_ne.2 hk4
        go_wp2_with fail
        generalize (w1.alloc (.cells #[.int .i64 k, .int .i64 a, .int .i64 cc, .int .i64 v] 24)) = u2 at *
        have q := specDiskValid_any Ad d.length cd _ d u2 od.sees
        rw [HD.out] at q
        refine q.mono ?_
        clear q
        rintro e w' ⟨rfl, rfl⟩
        go_wp2_with fail
        have q := specCommandValid_any k a cc v (d.length : Int) u2 (by omega)
        rw [HV.out] at q
        try simp only [cmdV] at q
        refine q.mono ?_
        clear q
        rintro e w3 ⟨rfl, b3⟩
        have s3 := b3.size
        replace od := od.below b3
        replace rc := rowKeep rc b3
        clear mc0 mc1 mc2 mc3
        obtain ⟨mc0, mc1, mc2, mc3⟩ := cells4 rc
        replace hB := below_later hB b3 (Nat.le_refl _)
        clear b3
        have k4 := mc0
        have k5 := mc1
        have k6 := mc2
        have k7 := mc3
        have hn8 := below_new w3 (.cells #[.int .i64 3, .int .i64 a, .int .i64 cc, .int .i64 0] 24)
        replace od := od.below hn8
        replace rc := rowKeep rc hn8
        clear mc0 mc1 mc2 mc3
        obtain ⟨mc0, mc1, mc2, mc3⟩ := cells4 rc
        replace hB := below_later hB hn8 (Nat.le_refl _)
        clear hn8
        have ra : (w3.alloc (.cells #[.int .i64 3, .int .i64 a, .int .i64 cc, .int .i64 0] 24)).heap[w3.heap.size]? = some (.cells #[.int .i64 3, .int .i64 a, .int .i64 cc, .int .i64 0] 24 (0, 0)) := heap_alloc_new _ _
        obtain ⟨ma0, ma1, ma2, ma3⟩ := cells4 ra
        have s8 : w3.heap.size < (w3.alloc (.cells #[.int .i64 3, .int .i64 a, .int .i64 cc, .int .i64 0] 24)).heap.size := by rw [World.size_alloc]; exact Nat.lt_succ_self _
        go_upto_region 7 with fail
        clear k4 k5 k6 k7
        generalize (w3.alloc (.cells #[.int .i64 3, .int .i64 a, .int .i64 cc, .int .i64 0] 24)) = u8 at *
        have k9 := mc0
        have k10 := mc1
        have k11 := mc2
        have k12 := mc3
        have k13 := ma0
        have k14 := ma1
        have k15 := ma2
        have k16 := ma3
        have hn17 := below_new u8 (.cells #[.int .i64 2, .int .i64 a, .int .i64 cc, .int .i64 0] 24)
        replace od := od.below hn17
        replace rc := rowKeep rc hn17
        clear mc0 mc1 mc2 mc3
        obtain ⟨mc0, mc1, mc2, mc3⟩ := cells4 rc
        replace ra := rowKeep ra hn17
        clear ma0 ma1 ma2 ma3
        obtain ⟨ma0, ma1, ma2, ma3⟩ := cells4 ra
        replace hB := below_later hB hn17 (Nat.le_refl _)
        clear hn17
        have rb : (u8.alloc (.cells #[.int .i64 2, .int .i64 a, .int .i64 cc, .int .i64 0] 24)).heap[u8.heap.size]? = some (.cells #[.int .i64 2, .int .i64 a, .int .i64 cc, .int .i64 0] 24 (0, 0)) := heap_alloc_new _ _
        obtain ⟨mb0, mb1, mb2, mb3⟩ := cells4 rb
        have s17 : u8.heap.size < (u8.alloc (.cells #[.int .i64 2, .int .i64 a, .int .i64 cc, .int .i64 0] 24)).heap.size := by rw [World.size_alloc]; exact Nat.lt_succ_self _
        go_wp2_with fail
        clear k9 k10 k11 k12 k13 k14 k15 k16
        generalize (u8.alloc (.cells #[.int .i64 2, .int .i64 a, .int .i64 cc, .int .i64 0] 24)) = u17 at *
        have q := implExecuteCommand_any Ad d.length cd _ d ⟨3, a, cc, 0⟩ u17 od.sees (by omega)
        try simp only [cmdV] at q
        refine q.mono ?_
        clear q
        rintro e w18 ⟨Ax, cx, Ar, cr, mid18, rfl, ox, or, p18, q18, b18⟩
        have s18 := b18.size
        replace od := od.below b18
        replace rc := rowKeep rc b18
        clear mc0 mc1 mc2 mc3
        obtain ⟨mc0, mc1, mc2, mc3⟩ := cells4 rc
        replace ra := rowKeep ra b18
        clear ma0 ma1 ma2 ma3
        obtain ⟨ma0, ma1, ma2, ma3⟩ := cells4 ra
        replace rb := rowKeep rb b18
        clear mb0 mb1 mb2 mb3
        obtain ⟨mb0, mb1, mb2, mb3⟩ := cells4 rb
        replace hB := below_later hB b18 (Nat.le_refl _)
        clear b18
        go_wp2_with fail
        have q := implExecuteCommand_any Ad d.length cd _ d ⟨2, a, cc, 0⟩ w18 od.sees (by omega)
        rw [HE2.out] at q
        try simp only [cmdV] at q
        refine q.mono ?_
        clear q
        rintro e w19 ⟨Ay, cy, As, cs, mid19, rfl, oy, os, p19, q19, b19⟩
        have s19 := b19.size
        replace od := od.below b19
        replace ox := ox.below b19
        replace or := or.below b19
        replace rc := rowKeep rc b19
        clear mc0 mc1 mc2 mc3
        obtain ⟨mc0, mc1, mc2, mc3⟩ := cells4 rc
        replace ra := rowKeep ra b19
        clear ma0 ma1 ma2 ma3
        obtain ⟨ma0, ma1, ma2, ma3⟩ := cells4 ra
        replace rb := rowKeep rb b19
        clear mb0 mb1 mb2 mb3
        obtain ⟨mb0, mb1, mb2, mb3⟩ := cells4 rb
        replace hB := below_later hB b19 (Nat.le_refl _)
        clear b19
        go_wp2_with fail
        have q := specExecuteCommand_any Ad d.length cd _ d ⟨3, a, cc, 0⟩ w19 od.sees (by omega)
        try simp only [cmdV] at q
        refine q.mono ?_
        clear q
        rintro e w20 ⟨Az, cz, At, ct, mid20, rfl, oz, ot, p20, q20, b20⟩
        have s20 := b20.size
        replace od := od.below b20
        replace ox := ox.below b20
        replace or := or.below b20
        replace oy := oy.below b20
        replace os := os.below b20
        replace rc := rowKeep rc b20
        clear mc0 mc1 mc2 mc3
        obtain ⟨mc0, mc1, mc2, mc3⟩ := cells4 rc
        replace ra := rowKeep ra b20
        clear ma0 ma1 ma2 ma3
        obtain ⟨ma0, ma1, ma2, ma3⟩ := cells4 ra
        replace rb := rowKeep rb b20
        clear mb0 mb1 mb2 mb3
        obtain ⟨mb0, mb1, mb2, mb3⟩ := cells4 rb
        replace hB := below_later hB b20 (Nat.le_refl _)
        clear b20
        go_wp2_with fail
        refine (sameInts_t _ _ _ _ _ _ _ _ _ _ ox.sees oy.sees).mono ?_
        rintro e w21 ⟨rfl, b21⟩
        have s21 := b21.size
        replace od := od.below b21
        replace ox := ox.below b21
        replace or := or.below b21
        replace oy := oy.below b21
        replace os := os.below b21
        replace oz := oz.below b21
        replace ot := ot.below b21
        replace rc := rowKeep rc b21
        clear mc0 mc1 mc2 mc3
        obtain ⟨mc0, mc1, mc2, mc3⟩ := cells4 rc
        replace ra := rowKeep ra b21
        clear ma0 ma1 ma2 ma3
        obtain ⟨ma0, ma1, ma2, ma3⟩ := cells4 ra
        replace rb := rowKeep rb b21
        clear mb0 mb1 mb2 mb3
        obtain ⟨mb0, mb1, mb2, mb3⟩ := cells4 rb
        replace hB := below_later hB b21 (Nat.le_refl _)
        clear b21
        go_wp2_with fail
        refine (sameInts_t _ _ _ _ _ _ _ _ _ _ ox.sees oz.sees).mono ?_
        rintro e w22 ⟨rfl, b22⟩
        have s22 := b22.size
        replace od := od.below b22
        replace ox := ox.below b22
        replace or := or.below b22
        replace oy := oy.below b22
        replace os := os.below b22
        replace oz := oz.below b22
        replace ot := ot.below b22
        replace rc := rowKeep rc b22
        clear mc0 mc1 mc2 mc3
        obtain ⟨mc0, mc1, mc2, mc3⟩ := cells4 rc
        replace ra := rowKeep ra b22
        clear ma0 ma1 ma2 ma3
        obtain ⟨ma0, ma1, ma2, ma3⟩ := cells4 ra
        replace rb := rowKeep rb b22
        clear mb0 mb1 mb2 mb3
        obtain ⟨mb0, mb1, mb2, mb3⟩ := cells4 rb
        replace hB := below_later hB b22 (Nat.le_refl _)
        clear b22
        go_wp2_with fail
        go_ret
        exact ⟨rfl, hB⟩
end Go.Proofs.Ytiibnkcdeldiaaa
