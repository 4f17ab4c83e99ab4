/-
  Walk: the law FnExecuteCommand returns true.
-/
import Derived.Deep.DeepCutAuto
import Derived.Test.YtiibnkcdeldiaaaC10
import Derived.Test.YtiibnkcdeldiaaaC7
import Derived.Test.YtiibnkcdeldiaaaD5
import Derived.Test.YtiibnkcdeldiaaaA
namespace Go.Proofs.Ytiibnkcdeldiaaa
open Go.RowKit
set_option linter.unusedSimpArgs false
set_option linter.unusedVariables false
set_option maxHeartbeats 4000000 in
theorem law_FnExecuteCommand (w : World) (A : Option Addr) (n c : Nat) (bs : List Int) (h : Sees w w.heap.size 1 A n c (byts bs)) (hb : ∀ v ∈ bs, 0 ≤ v ∧ v ≤ 255) :
    Calls Try.prog 7 #[.slice A n c] w (RetPure w (.bool true)) := by
  have hc1 := h.cap
  have hc2 := h.big
  by_cases hn : 1048576 < n
  · go_enter Try.func7, Try.ntmps7
    go_wp2_with fail
    go_ret
    exact ⟨rfl, Below.refl _ _⟩
  have hB : Below w.heap.size w w := Below.refl _ _
  go_enter Try.func7, Try.ntmps7
  go_wp2_with fail
  refine (drawExecuteCommand_any _ _ _ _ _ _ h (Nat.le_refl _) hb).mono ?_
  rintro e w1 ⟨Ad, nd, cd, d, k, a, cc, v, rfl, ⟨od, hnd⟩, hbd, b1⟩
  have s1 := b1.size
  replace hB := below_later hB b1 (Nat.le_refl _)
  clear b1
  clear h hb
  obtain rfl := od.sees.int
  have hcd := od.cap
  have hn2 := below_new w1 (.cells #[.int .i64 k, .int .i64 a, .int .i64 cc, .int .i64 v] 24)
  replace od := od.below hn2
  replace hB := below_later hB hn2 (Nat.le_refl _)
  clear hn2
  have rc : (w1.alloc (.cells #[.int .i64 k, .int .i64 a, .int .i64 cc, .int .i64 v] 24)).heap[w1.heap.size]? = some (.cells #[.int .i64 k, .int .i64 a, .int .i64 cc, .int .i64 v] 24 (0, 0)) := heap_alloc_new _ _
  obtain ⟨mc0, mc1, mc2, mc3⟩ := cells4 rc
  have s2 : w1.heap.size < (w1.alloc (.cells #[.int .i64 k, .int .i64 a, .int .i64 cc, .int .i64 v] 24)).heap.size := by rw [World.size_alloc]; exact Nat.lt_succ_self _
  go_upto_region 4 with fail
  generalize (w1.alloc (.cells #[.int .i64 k, .int .i64 a, .int .i64 cc, .int .i64 v] 24)) = u2 at *
  obtain ⟨i0, hi0, hz0, hz1, hz2⟩ := info_parts int_info
  cases hd : dval d
  · have HD := Lib.hid hd
    have HX : (dval d && cval ⟨k, a, cc, v⟩ d.length) = false := by rw [hd]; rfl
    clear hd
    have HE := Lib.hid (exD_no HX)
    have HR := Lib.hid (exR_no HX)
    clear HX
    go_wp2_with fail
    have q := implExecuteCommand_any Ad d.length cd _ d ⟨k, a, cc, v⟩ u2 od.sees (by omega)
    rw [HE.out] at q
    rw [HR.out] at q
    try simp only [cmdV] at q
    refine q.mono ?_
    clear q
    rintro e w3 ⟨Ax, cx, Ar, cr, mid3, rfl, ox, or, p3, q3, b3⟩
    have s3 := b3.size
    replace od := od.below b3
    replace rc := rowKeep rc b3
    clear mc0 mc1 mc2 mc3
    obtain ⟨mc0, mc1, mc2, mc3⟩ := cells4 rc
    replace hB := below_later hB b3 (Nat.le_refl _)
    clear b3
    go_wp2_with fail
    have q := specExecuteCommand_any Ad d.length cd _ d ⟨k, a, cc, v⟩ w3 od.sees (by omega)
    rw [HE.out] at q
    rw [HR.out] at q
    try simp only [cmdV] at q
    refine q.mono ?_
    clear q
    rintro e w4 ⟨Ay, cy, As, cs, mid4, rfl, oy, os, p4, q4, b4⟩
    have s4 := b4.size
    replace od := od.below b4
    replace ox := ox.below b4
    replace or := or.below b4
    replace rc := rowKeep rc b4
    clear mc0 mc1 mc2 mc3
    obtain ⟨mc0, mc1, mc2, mc3⟩ := cells4 rc
    replace hB := below_later hB b4 (Nat.le_refl _)
    clear b4
    go_wp2_with fail
    refine (sameInts_t _ _ _ _ _ _ _ _ _ _ ox.sees oy.sees).mono ?_
    rintro e w5 ⟨rfl, b5⟩
    have s5 := b5.size
    replace od := od.below b5
    replace ox := ox.below b5
    replace or := or.below b5
    replace oy := oy.below b5
    replace os := os.below b5
    replace rc := rowKeep rc b5
    clear mc0 mc1 mc2 mc3
    obtain ⟨mc0, mc1, mc2, mc3⟩ := cells4 rc
    replace hB := below_later hB b5 (Nat.le_refl _)
    clear b5
    go_wp2_with fail
    refine (sameInts_t _ _ _ _ _ _ _ _ _ _ or.sees os.sees).mono ?_
    rintro e w6 ⟨rfl, b6⟩
    have s6 := b6.size
    replace od := od.below b6
    replace ox := ox.below b6
    replace or := or.below b6
    replace oy := oy.below b6
    replace os := os.below b6
    replace rc := rowKeep rc b6
    clear mc0 mc1 mc2 mc3
    obtain ⟨mc0, mc1, mc2, mc3⟩ := cells4 rc
    replace hB := below_later hB b6 (Nat.le_refl _)
    clear b6
    go_wp2_with fail
    clear oy
    clear os
    go_wp2_with fail
    have q := specDiskValid_any Ad d.length cd _ d w6 od.sees
    rw [HD.out] at q
    refine q.mono ?_
    clear q
    rintro e w' ⟨rfl, rfl⟩
    go_wp2_with fail
    refine (alive_any _).mono ?_
    rintro e w7 ⟨rfl, b7⟩
    have s7 := b7.size
    replace od := od.below b7
    replace ox := ox.below b7
    replace or := or.below b7
    replace rc := rowKeep rc b7
    clear mc0 mc1 mc2 mc3
    obtain ⟨mc0, mc1, mc2, mc3⟩ := cells4 rc
    replace hB := below_later hB b7 (Nat.le_refl _)
    clear b7
    go_wp2_with fail
    go_ret
    exact ⟨rfl, hB⟩
  · have HD := Lib.hid hd
    cases hv : cval ⟨k, a, cc, v⟩ (d.length : Int)
    · have HV := Lib.hid hv
      have HX : (dval d && cval ⟨k, a, cc, v⟩ d.length) = false := by rw [hv, Bool.and_false]
      clear hd hv
      have HE := Lib.hid (exD_no HX)
      have HR := Lib.hid (exR_no HX)
      clear HX
      go_wp2_with fail
      have q := implExecuteCommand_any Ad d.length cd _ d ⟨k, a, cc, v⟩ u2 od.sees (by omega)
      rw [HE.out] at q
      rw [HR.out] at q
      try simp only [cmdV] at q
      refine q.mono ?_
      clear q
      rintro e w3 ⟨Ax, cx, Ar, cr, mid3, rfl, ox, or, p3, q3, b3⟩
      have s3 := b3.size
      replace od := od.below b3
      replace rc := rowKeep rc b3
      clear mc0 mc1 mc2 mc3
      obtain ⟨mc0, mc1, mc2, mc3⟩ := cells4 rc
      replace hB := below_later hB b3 (Nat.le_refl _)
      clear b3
      go_wp2_with fail
      have q := specExecuteCommand_any Ad d.length cd _ d ⟨k, a, cc, v⟩ w3 od.sees (by omega)
      rw [HE.out] at q
      rw [HR.out] at q
      try simp only [cmdV] at q
      refine q.mono ?_
      clear q
      rintro e w4 ⟨Ay, cy, As, cs, mid4, rfl, oy, os, p4, q4, b4⟩
      have s4 := b4.size
      replace od := od.below b4
      replace ox := ox.below b4
      replace or := or.below b4
      replace rc := rowKeep rc b4
      clear mc0 mc1 mc2 mc3
      obtain ⟨mc0, mc1, mc2, mc3⟩ := cells4 rc
      replace hB := below_later hB b4 (Nat.le_refl _)
      clear b4
      go_wp2_with fail
      refine (sameInts_t _ _ _ _ _ _ _ _ _ _ ox.sees oy.sees).mono ?_
      rintro e w5 ⟨rfl, b5⟩
      have s5 := b5.size
      replace od := od.below b5
      replace ox := ox.below b5
      replace or := or.below b5
      replace oy := oy.below b5
      replace os := os.below b5
      replace rc := rowKeep rc b5
      clear mc0 mc1 mc2 mc3
      obtain ⟨mc0, mc1, mc2, mc3⟩ := cells4 rc
      replace hB := below_later hB b5 (Nat.le_refl _)
      clear b5
      go_wp2_with fail
      refine (sameInts_t _ _ _ _ _ _ _ _ _ _ or.sees os.sees).mono ?_
      rintro e w6 ⟨rfl, b6⟩
      have s6 := b6.size
      replace od := od.below b6
      replace ox := ox.below b6
      replace or := or.below b6
      replace oy := oy.below b6
      replace os := os.below b6
      replace rc := rowKeep rc b6
      clear mc0 mc1 mc2 mc3
      obtain ⟨mc0, mc1, mc2, mc3⟩ := cells4 rc
      replace hB := below_later hB b6 (Nat.le_refl _)
      clear b6
      go_wp2_with fail
      clear oy
      clear os
      go_wp2_with fail
      have q := specDiskValid_any Ad d.length cd _ d w6 od.sees
      rw [HD.out] at q
      refine q.mono ?_
      clear q
      rintro e w' ⟨rfl, rfl⟩
      go_wp2_with fail
      have q := specCommandValid_any k a cc v (d.length : Int) w6 (by omega)
      rw [HV.out] at q
      try simp only [cmdV] at q
      refine q.mono ?_
      clear q
      rintro e w7 ⟨rfl, b7⟩
      have s7 := b7.size
      replace od := od.below b7
      replace ox := ox.below b7
      replace or := or.below b7
      replace rc := rowKeep rc b7
      clear mc0 mc1 mc2 mc3
      obtain ⟨mc0, mc1, mc2, mc3⟩ := cells4 rc
      replace hB := below_later hB b7 (Nat.le_refl _)
      clear b7
      go_wp2_with fail
      refine (alive_any _).mono ?_
      rintro e w8 ⟨rfl, b8⟩
      have s8 := b8.size
      replace od := od.below b8
      replace ox := ox.below b8
      replace or := or.below b8
      replace rc := rowKeep rc b8
      clear mc0 mc1 mc2 mc3
      obtain ⟨mc0, mc1, mc2, mc3⟩ := cells4 rc
      replace hB := below_later hB b8 (Nat.le_refl _)
      clear b8
      go_wp2_with fail
      go_ret
      exact ⟨rfl, hB⟩
    · have HV := Lib.hid hv
      have hcv := (cval_iff _ _).1 hv
      simp only at hcv
      have hl64 : d.length ≤ 64 := ((dval_iff d).1 hd).1
      rcases (show k = 1 ∨ k = 4 ∨ (k = 2 ∨ k = 3) from by omega) with hk1 | hk4 | hk23
      · have hb1 : (k == 1) = true := beq_iff_eq.2 hk1
        have hkk : k = 1 ∨ k = 4 := by omega
        have HE := Lib.hid (show exD d ⟨k, a, cc, v⟩ = d by rw [exD_of hd hv, xdisk_same _ _ hkk])
        have HR := Lib.hid (show exR d ⟨k, a, cc, v⟩ = rdS d a cc by rw [exR_of hd hv, xread_rdS _ _ hd hv hkk])
        clear hd hv hcv hkk hk1
        have l5 : (rdS d a cc).length ≤ 64 := rdS_64 _ _ _
        go_wp2_with fail
        have q := implExecuteCommand_any Ad d.length cd _ d ⟨k, a, cc, v⟩ u2 od.sees (by omega)
        rw [HE.out] at q
        rw [HR.out] at q
        try simp only [cmdV] at q
        refine q.mono ?_
        clear q
        rintro e w3 ⟨Ax, cx, Ar, cr, mid3, rfl, ox, or, p3, q3, b3⟩
        have s3 := b3.size
        replace od := od.below b3
        replace rc := rowKeep rc b3
        clear mc0 mc1 mc2 mc3
        obtain ⟨mc0, mc1, mc2, mc3⟩ := cells4 rc
        replace hB := below_later hB b3 (Nat.le_refl _)
        clear b3
        go_wp2_with fail
        have q := specExecuteCommand_any Ad d.length cd _ d ⟨k, a, cc, v⟩ w3 od.sees (by omega)
        rw [HE.out] at q
        rw [HR.out] at q
        try simp only [cmdV] at q
        refine q.mono ?_
        clear q
        rintro e w4 ⟨Ay, cy, As, cs, mid4, rfl, oy, os, p4, q4, b4⟩
        have s4 := b4.size
        replace od := od.below b4
        replace ox := ox.below b4
        replace or := or.below b4
        replace rc := rowKeep rc b4
        clear mc0 mc1 mc2 mc3
        obtain ⟨mc0, mc1, mc2, mc3⟩ := cells4 rc
        replace hB := below_later hB b4 (Nat.le_refl _)
        clear b4
        go_wp2_with fail
        refine (sameInts_t _ _ _ _ _ _ _ _ _ _ ox.sees oy.sees).mono ?_
        rintro e w5 ⟨rfl, b5⟩
        have s5 := b5.size
        replace od := od.below b5
        replace ox := ox.below b5
        replace or := or.below b5
        replace oy := oy.below b5
        replace os := os.below b5
        replace rc := rowKeep rc b5
        clear mc0 mc1 mc2 mc3
        obtain ⟨mc0, mc1, mc2, mc3⟩ := cells4 rc
        replace hB := below_later hB b5 (Nat.le_refl _)
        clear b5
        go_wp2_with fail
        refine (sameInts_t _ _ _ _ _ _ _ _ _ _ or.sees os.sees).mono ?_
        rintro e w6 ⟨rfl, b6⟩
        have s6 := b6.size
        replace od := od.below b6
        replace ox := ox.below b6
        replace or := or.below b6
        replace oy := oy.below b6
        replace os := os.below b6
        replace rc := rowKeep rc b6
        clear mc0 mc1 mc2 mc3
        obtain ⟨mc0, mc1, mc2, mc3⟩ := cells4 rc
        replace hB := below_later hB b6 (Nat.le_refl _)
        clear b6
        go_wp2_with fail
        clear oy
        clear os
        go_wp2_with fail
        have q := specDiskValid_any Ad d.length cd _ d w6 od.sees
        rw [HD.out] at q
        refine q.mono ?_
        clear q
        rintro e w' ⟨rfl, rfl⟩
        go_wp2_with fail
        have q := specCommandValid_any k a cc v (d.length : Int) w6 (by omega)
        rw [HV.out] at q
        try simp only [cmdV] at q
        refine q.mono ?_
        clear q
        rintro e w7 ⟨rfl, b7⟩
        have s7 := b7.size
        replace od := od.below b7
        replace ox := ox.below b7
        replace or := or.below b7
        replace rc := rowKeep rc b7
        clear mc0 mc1 mc2 mc3
        obtain ⟨mc0, mc1, mc2, mc3⟩ := cells4 rc
        replace hB := below_later hB b7 (Nat.le_refl _)
        clear b7
        go_wp2_with fail
        have q := implExecuteCommand_any Ax d.length cx _ d ⟨k, a, cc, v⟩ w7 ox.sees (by omega)
        rw [HE.out] at q
        try simp only [cmdV] at q
        refine q.mono ?_
        clear q
        rintro e w8 ⟨Au, cu, Az, cz, mid8, rfl, ou, oz, p8, q8, b8⟩
        have s8 := b8.size
        replace od := od.below b8
        replace ox := ox.below b8
        replace or := or.below b8
        replace rc := rowKeep rc b8
        clear mc0 mc1 mc2 mc3
        obtain ⟨mc0, mc1, mc2, mc3⟩ := cells4 rc
        replace hB := below_later hB b8 (Nat.le_refl _)
        clear b8
        go_wp2_with fail
        refine (sameInts_t _ _ _ _ _ _ _ _ _ _ ox.sees od.sees).mono ?_
        rintro e w9 ⟨rfl, b9⟩
        have s9 := b9.size
        replace od := od.below b9
        replace ox := ox.below b9
        replace or := or.below b9
        replace ou := ou.below b9
        replace oz := oz.below b9
        replace rc := rowKeep rc b9
        clear mc0 mc1 mc2 mc3
        obtain ⟨mc0, mc1, mc2, mc3⟩ := cells4 rc
        replace hB := below_later hB b9 (Nat.le_refl _)
        clear b9
        go_wp2_with fail
        refine (implReadSectors_any Ad d.length cd _ d a cc _ od.sees (by omega)).mono ?_
        rintro e w10 ⟨Aq, cq, rfl, oq, b10⟩
        have s10 := b10.size
        replace od := od.below b10
        replace ox := ox.below b10
        replace or := or.below b10
        replace ou := ou.below b10
        replace oz := oz.below b10
        replace rc := rowKeep rc b10
        clear mc0 mc1 mc2 mc3
        obtain ⟨mc0, mc1, mc2, mc3⟩ := cells4 rc
        replace hB := below_later hB b10 (Nat.le_refl _)
        clear b10
        go_wp2_with fail
        refine (sameInts_t _ _ _ _ _ _ _ _ _ _ or.sees oq.sees).mono ?_
        rintro e w11 ⟨rfl, b11⟩
        have s11 := b11.size
        replace od := od.below b11
        replace ox := ox.below b11
        replace or := or.below b11
        replace ou := ou.below b11
        replace oz := oz.below b11
        replace oq := oq.below b11
        replace rc := rowKeep rc b11
        clear mc0 mc1 mc2 mc3
        obtain ⟨mc0, mc1, mc2, mc3⟩ := cells4 rc
        replace hB := below_later hB b11 (Nat.le_refl _)
        clear b11
        go_wp2_with fail
        refine (sameInts_t _ _ _ _ _ _ _ _ _ _ ou.sees ox.sees).mono ?_
        rintro e w12 ⟨rfl, b12⟩
        have s12 := b12.size
        replace od := od.below b12
        replace ox := ox.below b12
        replace or := or.below b12
        replace ou := ou.below b12
        replace oz := oz.below b12
        replace oq := oq.below b12
        replace rc := rowKeep rc b12
        clear mc0 mc1 mc2 mc3
        obtain ⟨mc0, mc1, mc2, mc3⟩ := cells4 rc
        replace hB := below_later hB b12 (Nat.le_refl _)
        clear b12
        go_wp2_with fail
        go_ret
        exact ⟨rfl, hB⟩
      · have hb1 : (k == 1) = false := beq_eq_false_iff_ne.2 (by omega)
        have hb4 : (k == 4) = true := beq_iff_eq.2 hk4
        have hkk : k = 1 ∨ k = 4 := by omega
        have HE := Lib.hid (show exD d ⟨k, a, cc, v⟩ = d by rw [exD_of hd hv, xdisk_same _ _ hkk])
        have HR := Lib.hid (show exR d ⟨k, a, cc, v⟩ = rdS d a cc by rw [exR_of hd hv, xread_rdS _ _ hd hv hkk])
        clear hd hv hcv hkk hk4
        have l5 : (rdS d a cc).length ≤ 64 := rdS_64 _ _ _
        go_wp2_with fail
        have q := implExecuteCommand_any Ad d.length cd _ d ⟨k, a, cc, v⟩ u2 od.sees (by omega)
        rw [HE.out] at q
        rw [HR.out] at q
        try simp only [cmdV] at q
        refine q.mono ?_
        clear q
        rintro e w3 ⟨Ax, cx, Ar, cr, mid3, rfl, ox, or, p3, q3, b3⟩
        have s3 := b3.size
        replace od := od.below b3
        replace rc := rowKeep rc b3
        clear mc0 mc1 mc2 mc3
        obtain ⟨mc0, mc1, mc2, mc3⟩ := cells4 rc
        replace hB := below_later hB b3 (Nat.le_refl _)
        clear b3
        go_wp2_with fail
        have q := specExecuteCommand_any Ad d.length cd _ d ⟨k, a, cc, v⟩ w3 od.sees (by omega)
        rw [HE.out] at q
        rw [HR.out] at q
        try simp only [cmdV] at q
        refine q.mono ?_
        clear q
        rintro e w4 ⟨Ay, cy, As, cs, mid4, rfl, oy, os, p4, q4, b4⟩
        have s4 := b4.size
        replace od := od.below b4
        replace ox := ox.below b4
        replace or := or.below b4
        replace rc := rowKeep rc b4
        clear mc0 mc1 mc2 mc3
        obtain ⟨mc0, mc1, mc2, mc3⟩ := cells4 rc
        replace hB := below_later hB b4 (Nat.le_refl _)
        clear b4
        go_wp2_with fail
        refine (sameInts_t _ _ _ _ _ _ _ _ _ _ ox.sees oy.sees).mono ?_
        rintro e w5 ⟨rfl, b5⟩
        have s5 := b5.size
        replace od := od.below b5
        replace ox := ox.below b5
        replace or := or.below b5
        replace oy := oy.below b5
        replace os := os.below b5
        replace rc := rowKeep rc b5
        clear mc0 mc1 mc2 mc3
        obtain ⟨mc0, mc1, mc2, mc3⟩ := cells4 rc
        replace hB := below_later hB b5 (Nat.le_refl _)
        clear b5
        go_wp2_with fail
        refine (sameInts_t _ _ _ _ _ _ _ _ _ _ or.sees os.sees).mono ?_
        rintro e w6 ⟨rfl, b6⟩
        have s6 := b6.size
        replace od := od.below b6
        replace ox := ox.below b6
        replace or := or.below b6
        replace oy := oy.below b6
        replace os := os.below b6
        replace rc := rowKeep rc b6
        clear mc0 mc1 mc2 mc3
        obtain ⟨mc0, mc1, mc2, mc3⟩ := cells4 rc
        replace hB := below_later hB b6 (Nat.le_refl _)
        clear b6
        go_wp2_with fail
        clear oy
        clear os
        go_wp2_with fail
        have q := specDiskValid_any Ad d.length cd _ d w6 od.sees
        rw [HD.out] at q
        refine q.mono ?_
        clear q
        rintro e w' ⟨rfl, rfl⟩
        go_wp2_with fail
        have q := specCommandValid_any k a cc v (d.length : Int) w6 (by omega)
        rw [HV.out] at q
        try simp only [cmdV] at q
        refine q.mono ?_
        clear q
        rintro e w7 ⟨rfl, b7⟩
        have s7 := b7.size
        replace od := od.below b7
        replace ox := ox.below b7
        replace or := or.below b7
        replace rc := rowKeep rc b7
        clear mc0 mc1 mc2 mc3
        obtain ⟨mc0, mc1, mc2, mc3⟩ := cells4 rc
        replace hB := below_later hB b7 (Nat.le_refl _)
        clear b7
        go_wp2_with fail
        have q := implExecuteCommand_any Ax d.length cx _ d ⟨k, a, cc, v⟩ w7 ox.sees (by omega)
        rw [HE.out] at q
        try simp only [cmdV] at q
        refine q.mono ?_
        clear q
        rintro e w8 ⟨Au, cu, Az, cz, mid8, rfl, ou, oz, p8, q8, b8⟩
        have s8 := b8.size
        replace od := od.below b8
        replace ox := ox.below b8
        replace or := or.below b8
        replace rc := rowKeep rc b8
        clear mc0 mc1 mc2 mc3
        obtain ⟨mc0, mc1, mc2, mc3⟩ := cells4 rc
        replace hB := below_later hB b8 (Nat.le_refl _)
        clear b8
        go_wp2_with fail
        refine (sameInts_t _ _ _ _ _ _ _ _ _ _ ox.sees od.sees).mono ?_
        rintro e w9 ⟨rfl, b9⟩
        have s9 := b9.size
        replace od := od.below b9
        replace ox := ox.below b9
        replace or := or.below b9
        replace ou := ou.below b9
        replace oz := oz.below b9
        replace rc := rowKeep rc b9
        clear mc0 mc1 mc2 mc3
        obtain ⟨mc0, mc1, mc2, mc3⟩ := cells4 rc
        replace hB := below_later hB b9 (Nat.le_refl _)
        clear b9
        go_wp2_with fail
        refine (implReadSectors_any Ad d.length cd _ d a cc _ od.sees (by omega)).mono ?_
        rintro e w10 ⟨Aq, cq, rfl, oq, b10⟩
        have s10 := b10.size
        replace od := od.below b10
        replace ox := ox.below b10
        replace or := or.below b10
        replace ou := ou.below b10
        replace oz := oz.below b10
        replace rc := rowKeep rc b10
        clear mc0 mc1 mc2 mc3
        obtain ⟨mc0, mc1, mc2, mc3⟩ := cells4 rc
        replace hB := below_later hB b10 (Nat.le_refl _)
        clear b10
        go_wp2_with fail
        refine (sameInts_t _ _ _ _ _ _ _ _ _ _ or.sees oq.sees).mono ?_
        rintro e w11 ⟨rfl, b11⟩
        have s11 := b11.size
        replace od := od.below b11
        replace ox := ox.below b11
        replace or := or.below b11
        replace ou := ou.below b11
        replace oz := oz.below b11
        replace oq := oq.below b11
        replace rc := rowKeep rc b11
        clear mc0 mc1 mc2 mc3
        obtain ⟨mc0, mc1, mc2, mc3⟩ := cells4 rc
        replace hB := below_later hB b11 (Nat.le_refl _)
        clear b11
        go_wp2_with fail
        refine (sameInts_t _ _ _ _ _ _ _ _ _ _ ou.sees ox.sees).mono ?_
        rintro e w12 ⟨rfl, b12⟩
        have s12 := b12.size
        replace od := od.below b12
        replace ox := ox.below b12
        replace or := or.below b12
        replace ou := ou.below b12
        replace oz := oz.below b12
        replace oq := oq.below b12
        replace rc := rowKeep rc b12
        clear mc0 mc1 mc2 mc3
        obtain ⟨mc0, mc1, mc2, mc3⟩ := cells4 rc
        replace hB := below_later hB b12 (Nat.le_refl _)
        clear b12
        go_wp2_with fail
        go_ret
        exact ⟨rfl, hB⟩
      · have hb1 : (k == 1) = false := beq_eq_false_iff_ne.2 (by omega)
        have hb4 : (k == 4) = false := beq_eq_false_iff_ne.2 (by omega)
        have hkk : ¬ (k = 1 ∨ k = 4) := by omega
        have hWR := xdisk_wrS d ⟨k, a, cc, v⟩ hd hv hkk
        have hTW := xdisk_twice d ⟨k, a, cc, v⟩ hv
        have hXL := xdisk_len d ⟨k, a, cc, v⟩ hv
        have hXV := xdisk_val d ⟨k, a, cc, v⟩ hd hv
        have hE := exD_of hd hv
        have hR : exR d ⟨k, a, cc, v⟩ = [] := by rw [exR_of hd hv, xread_w _ _ (by show k ≠ 1; omega)]
        have hE2 : exD (xdisk d ⟨k, a, cc, v⟩) ⟨k, a, cc, v⟩ = xdisk d ⟨k, a, cc, v⟩ := by rw [exD_of hXV (by rw [hXL]; exact hv), hTW]
        simp only at hWR
        generalize xdisk d ⟨k, a, cc, v⟩ = X at *
        have hc0 : 0 ≤ cc ∧ cc ≤ 64 := by omega
        obtain ⟨hc0, hc1⟩ := hc0
        have HE := Lib.hid hE
        have HE2 := Lib.hid hE2
        have HR := Lib.hid hR
        have HWR := Lib.hid hWR
        have hX64 : X.length ≤ 64 := by omega
        clear hk23
        clear hWR hTW hXL hXV hE hE2 hR hd hv hcv hkk
        go_wp2_with fail
        have q := implExecuteCommand_any Ad d.length cd _ d ⟨k, a, cc, v⟩ u2 od.sees (by omega)
        rw [HE.out, HR.out] at q
        simp only [cmdV] at q
        refine q.mono ?_
        clear q
        rintro e w3 ⟨Ax, cx, Ar, cr, mid3, rfl, ox, or, p3, q3, b3⟩
        simp only [List.length_nil] at or
        have s3 := b3.size
        replace od := od.below b3
        replace rc := rowKeep rc b3
        clear mc0 mc1 mc2 mc3
        obtain ⟨mc0, mc1, mc2, mc3⟩ := cells4 rc
        replace hB := below_later hB b3 (Nat.le_refl _)
        clear b3
        go_wp2_with fail
        have q := specExecuteCommand_any Ad d.length cd _ d ⟨k, a, cc, v⟩ w3 od.sees (by omega)
        rw [HE.out, HR.out] at q
        simp only [cmdV] at q
        refine q.mono ?_
        clear q
        rintro e w4 ⟨Ay, cy, As, cs, mid4, rfl, oy, os, p4, q4, b4⟩
        simp only [List.length_nil] at os
        have s4 := b4.size
        replace od := od.below b4
        replace ox := ox.below b4
        replace or := or.below b4
        replace rc := rowKeep rc b4
        clear mc0 mc1 mc2 mc3
        obtain ⟨mc0, mc1, mc2, mc3⟩ := cells4 rc
        replace hB := below_later hB b4 (Nat.le_refl _)
        clear b4
        go_wp2_with fail
        refine (sameInts_t _ _ _ _ _ _ _ _ _ _ ox.sees oy.sees).mono ?_
        rintro e w5 ⟨rfl, b5⟩
        have s5 := b5.size
        replace od := od.below b5
        replace ox := ox.below b5
        replace or := or.below b5
        replace oy := oy.below b5
        replace os := os.below b5
        replace rc := rowKeep rc b5
        clear mc0 mc1 mc2 mc3
        obtain ⟨mc0, mc1, mc2, mc3⟩ := cells4 rc
        replace hB := below_later hB b5 (Nat.le_refl _)
        clear b5
        go_wp2_with fail
        refine (sameInts_t _ _ _ _ _ _ _ _ _ _ or.sees os.sees).mono ?_
        rintro e w6 ⟨rfl, b6⟩
        have s6 := b6.size
        replace od := od.below b6
        replace ox := ox.below b6
        replace or := or.below b6
        replace oy := oy.below b6
        replace os := os.below b6
        replace rc := rowKeep rc b6
        clear mc0 mc1 mc2 mc3
        obtain ⟨mc0, mc1, mc2, mc3⟩ := cells4 rc
        replace hB := below_later hB b6 (Nat.le_refl _)
        clear b6
        go_wp2_with fail
        clear oy
        clear os
        go_wp2_with fail
        have q := specDiskValid_any Ad d.length cd _ d w6 od.sees
        rw [HD.out] at q
        refine q.mono ?_
        clear q
        rintro e w' ⟨rfl, rfl⟩
        go_wp2_with fail
        have q := specCommandValid_any k a cc v (d.length : Int) w6 (by omega)
        rw [HV.out] at q
        try simp only [cmdV] at q
        refine q.mono ?_
        clear q
        rintro e w7 ⟨rfl, b7⟩
        have s7 := b7.size
        replace od := od.below b7
        replace ox := ox.below b7
        replace or := or.below b7
        replace rc := rowKeep rc b7
        clear mc0 mc1 mc2 mc3
        obtain ⟨mc0, mc1, mc2, mc3⟩ := cells4 rc
        replace hB := below_later hB b7 (Nat.le_refl _)
        clear b7
        go_wp2_with fail
        have q := implExecuteCommand_any Ax X.length cx _ X ⟨k, a, cc, v⟩ w7 ox.sees (by omega)
        rw [HE2.out] at q
        try simp only [cmdV] at q
        refine q.mono ?_
        clear q
        rintro e w8 ⟨Au, cu, Az, cz, mid8, rfl, ou, oz, p8, q8, b8⟩
        have s8 := b8.size
        replace od := od.below b8
        replace ox := ox.below b8
        replace or := or.below b8
        replace rc := rowKeep rc b8
        clear mc0 mc1 mc2 mc3
        obtain ⟨mc0, mc1, mc2, mc3⟩ := cells4 rc
        replace hB := below_later hB b8 (Nat.le_refl _)
        clear b8
        go_upto_region 13 with fail
        clear mc0 mc1 mc2 mc3
        have hn0 := below_new w8 (.cells #[] 3)
        have ho0 := (newEmpty w8 3 1).wide (Nat.le_refl _) (Nat.le_of_eq (World.size_alloc w8 (.cells #[] 3)).symm)
        have HST := Lib.hid (And.intro ho0 hn0)
        clear ho0 hn0
        go_wp2_with fail
        go_loopw [11, 12] (fun t i wr => ∃ (j : Nat) (A : Option Addr) (c : Nat), (j : Int) ≤ cc ∧ i = .int .i64 j ∧ t = .slice A j c ∧ Own wr w8.heap.size wr.heap.size 3 1 A j c (ints (List.replicate j v)) ∧ Below w8.heap.size w8 wr) (fun _ i _ => cc.toNat - (intOf i).toNat)
        case atStart => exact ⟨0, _, _, by omega, rfl, rfl, HST.out.1, HST.out.2⟩
        case round =>
          clear HST
          obtain ⟨j, Ap, cp, hj, rfl, rfl, op, bel⟩ := hrel
          have sw := bel.size
          replace rc := rowKeep rc bel
          obtain ⟨mc0, mc1, mc2, mc3⟩ := cells4 rc
          by_cases hlt : (j : Int) < cc
          · have hrep : ints (List.replicate j v) ++ [.int .i64 v] = ints (List.replicate (j + 1) v) := by rw [List.replicate_succ']; simp [ints]
            have HREP := Lib.hid hrep
            clear hrep
            have g1 := below_new wr (.cells #[.int .i64 v] 3)
            have p1 := op.below g1
            have hcp := op.cap
            go_wp2_with (at_builtin; refine wpList_app _ rfl (.tmp 103) (.tmp 106) _ rfl 3 i0 (.int .i64 0) 1 8 Try.underlying35 hi0 hz0 hz1 hz2 rfl (by decide) _ _ _ _ _ _ rfl p1 _ _ _ _ _ rfl (Sees.one wr 3 (.int .i64 v)) (one_int _) (by omega) (by omega) (by simp; omega) ?_; intro A2 c2 w2 o2 f2; rw [HREP.out] at o2; have B2 := f2.below (below_later bel g1 (Nat.le_refl _)) (Nat.le_refl _) (Nat.le_refl _); clear f2 p1 op g1 bel)
            go_roundw
            case rel => exact ⟨j + 1, A2, c2, by omega, by go_num, rfl, o2, B2⟩
            case measure => simp [intOf]; omega
          · obtain rfl : cc = (j : Int) := by omega
            replace od := od.below bel
            replace ox := ox.below bel
            replace or := or.below bel
            replace ou := ou.below bel
            replace hB := below_later hB bel (Nat.le_refl _)
            simp only [Int.toNat_natCast] at HWR
            have hopl : (List.replicate j v).length = j := List.length_replicate
            have HOP := Lib.hid hopl
            clear hopl
            go_wp2_with fail
            have q := implWriteSectors_any Ad Ap d.length cd j cp _ _ d (List.replicate j v) a wr od.sees (by omega) op.sees (by omega)
            rw [← HWR.out] at q
            refine q.mono ?_
            clear q
            rintro e w9 ⟨Aq, cq, rfl, oq, b9⟩
            have s9 := b9.size
            replace od := od.below b9
            replace ox := ox.below b9
            replace or := or.below b9
            replace ou := ou.below b9
            replace op := op.below b9
            replace rc := rowKeep rc b9
            clear mc0 mc1 mc2 mc3
            obtain ⟨mc0, mc1, mc2, mc3⟩ := cells4 rc
            replace hB := below_later hB b9 (Nat.le_refl _)
            clear b9
            go_wp2_with fail
            refine (sameInts_t _ _ _ _ _ _ _ _ _ _ ox.sees oq.sees).mono ?_
            rintro e w10 ⟨rfl, b10⟩
            have s10 := b10.size
            replace od := od.below b10
            replace ox := ox.below b10
            replace or := or.below b10
            replace ou := ou.below b10
            replace op := op.below b10
            replace oq := oq.below b10
            replace rc := rowKeep rc b10
            clear mc0 mc1 mc2 mc3
            obtain ⟨mc0, mc1, mc2, mc3⟩ := cells4 rc
            replace hB := below_later hB b10 (Nat.le_refl _)
            clear b10
            go_wp2_with fail
            refine (sameInts_t _ _ _ _ _ _ _ _ _ _ ou.sees ox.sees).mono ?_
            rintro e w11 ⟨rfl, b11⟩
            have s11 := b11.size
            replace od := od.below b11
            replace ox := ox.below b11
            replace or := or.below b11
            replace ou := ou.below b11
            replace op := op.below b11
            replace oq := oq.below b11
            replace rc := rowKeep rc b11
            clear mc0 mc1 mc2 mc3
            obtain ⟨mc0, mc1, mc2, mc3⟩ := cells4 rc
            replace hB := below_later hB b11 (Nat.le_refl _)
            clear b11
            go_wp2_with fail
            go_ret
            exact ⟨rfl, hB⟩
end Go.Proofs.Ytiibnkcdeldiaaa
