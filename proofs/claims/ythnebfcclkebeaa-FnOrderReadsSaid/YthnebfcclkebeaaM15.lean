/-
  Walk: the draw of batches (l20Batch).
-/
import Derived.Test.YthnebfcclkebeaaM8
import Derived.Test.YthnebfcclkebeaaC8
import Derived.Test.YthnebfcclkebeaaDR
import Derived.Test.YthnebfcclkebeaaP3
import Derived.Test.YthnebfcclkebeaaD3
import Derived.Deep.DeepCutAuto
namespace Go.Proofs.Ythnebfcclkebeaa
open Go.RowKit
set_option linter.unusedSimpArgs false
set_option linter.unusedVariables false
theorem cmdC_set (l : List Cmd) (j : Nat) (hj : j < l.length) (a b c d : Int) : ((((cmdC l).set (j * 4) (.int .i64 a)).set (j * 4 + 1) (.int .i64 b)).set (j * 4 + 2) (.int .i64 c)).set (j * 4 + 3) (.int .i64 d) = cmdC (l.set j ⟨a, b, c, d⟩) := by
  obtain ⟨u, v, x, y, he⟩ : ∃ u v x y, l[j] = ⟨u, v, x, y⟩ := ⟨_, _, _, _, rfl⟩
  have e0 := fm_set ccel4 l j hj 0 (by omega) (.int .i64 a) ⟨a, v, x, y⟩ (by rw [he]; rfl)
  have e1 := fm_set ccel4 (l.set j ⟨a, v, x, y⟩) j (by simpa using hj) 1 (by omega) (.int .i64 b) ⟨a, b, x, y⟩ (by rw [List.getElem_set_self]; rfl)
  have e2 := fm_set ccel4 (l.set j ⟨a, b, x, y⟩) j (by simpa using hj) 2 (by omega) (.int .i64 c) ⟨a, b, c, y⟩ (by rw [List.getElem_set_self]; rfl)
  have e3 := fm_set ccel4 (l.set j ⟨a, b, c, y⟩) j (by simpa using hj) 3 (by omega) (.int .i64 d) ⟨a, b, c, d⟩ (by rw [List.getElem_set_self]; rfl)
  rw [List.set_set] at e1 e2 e3
  rw [Nat.add_zero] at e0
  unfold cmdC
  rw [e0, e1, e2, e3]
theorem cmdC_made (m : Nat) : (madeCells #[Value.int .i64 0, .int .i64 0, .int .i64 0, .int .i64 0] (m * 4)).toList = cmdC (List.replicate m ⟨0, 0, 0, 0⟩) := by
  have h0 := madeCells_rep #[Value.int .i64 0, .int .i64 0, .int .i64 0, .int .i64 0] (by decide) m
  have e2 : (#[Value.int .i64 0, .int .i64 0, .int .i64 0, .int .i64 0] : Array Value).size = 4 := rfl
  rw [e2] at h0
  rw [h0]
  clear h0 e2
  induction m with
  | zero => rfl
  | succ m ih => rw [List.replicate_succ, List.flatMap_cons, ih, List.replicate_succ]; rfl
/-- What l20Batch leaves: some commands in new memory; the reader some places further; nothing else has changed. -/
def RetBat (w : World) (R p : Nat) (en : Ending) (w' : World) : Prop :=
  ∃ A n c l q, en = .returned (.slice A n c) ∧ Own w' w.heap.size w'.heap.size 55 4 A n c (cmdC l) ∧ n ≤ 13 ∧ (p ≤ q ∧ q ≤ p + 300) ∧ Rd w' R q ∧ Fr R (R + 1) w w'
set_option maxHeartbeats 20000000 in
theorem batch_any (R p : Nat) (size m : Int) (w : World) (hr : Rd w R p) (hp : p ≤ 100000000000) (hs1 : 0 ≤ size) (hs2 : size ≤ 1000000) (hm1 : -9223372036854775808 < m) (hm2 : m ≤ 9223372036854775807) :
    Calls Try.prog 55 #[.pointer (some ⟨R, 0, none⟩), .int .i64 size, .int .i64 m] w (RetBat w R p) := by
  have hRw := hr.lt
  have hF : Fr R (R + 1) w w := Fr.refl _ _ _
  have o2 := newEmpty w 55 4
  obtain ⟨i0, hi0, hz0, hz1, hz2⟩ := info_parts cmd_info
  have hn1 := below_new w (.cells #[] 55)
  replace hr := hr.below hn1
  replace hF := fr_below hF hn1
  clear hn1
  have s1 : w.heap.size < (w.alloc (.cells #[] 55)).heap.size := Nat.lt_of_lt_of_eq (Nat.lt_succ_self _) (World.size_alloc _ _).symm
  go_enter Try.func55, Try.ntmps55
  go_wp2_with fail
  generalize (w.alloc (.cells #[] 55)) = u1 at *
  refine (pick_any (R) (p) (7) _ hr (by omega)).mono ?_
  rintro e w2 ⟨k1, rfl, h2, q2, f2, e2⟩
  have s2 := f2.size
  clear hr
  have hr := q2
  clear q2
  replace o2 := o2.fr f2 (by omega)
  replace hF := hF.trans f2
  clear f2
  obtain ⟨k10, k11⟩ : 0 ≤ k1 ∧ k1 < 7 := by omega
  clear h2 e2
  have hst := o2.wide (Nat.le_refl _) (show w.heap.size + 1 ≤ w2.heap.size by omega)
  rw [show ([] : List Value) = cmdC [] from rfl] at hst
  have HST := Lib.hid hst
  have HRD := Lib.hid hr
  have HFR := Lib.hid hF
  clear o2 hr hF hst
  skip
  go_upto_region 3 with fail
  go_loopw [7, 8] (fun t i wr => ∃ (j : Int) (A : Option Addr) (n c : Nat) (l : List Cmd) (q : Nat), (0 ≤ j ∧ j ≤ 7) ∧ i = .int .i64 j ∧ t = .slice A n c ∧ Own wr w.heap.size wr.heap.size 55 4 A n c (cmdC l) ∧ (n : Int) + j ≤ 7 ∧ (p ≤ q ∧ (q : Int) + 25 * j ≤ p + 200) ∧ Rd wr R q ∧ Fr R (R + 1) w wr) (fun _ i _ => (intOf i).toNat)
  case atStart => exact ⟨k1, _, 0, _, [], _, by omega, rfl, rfl, HST.out, by omega, by omega, HRD.out, HFR.out⟩
  case round =>
    clear HST HRD HFR
    obtain ⟨j, A, n, c, l, q, ⟨hj0, hj1⟩, rfl, rfl, o2, hnj, hq, hr, hF⟩ := hrel
    have hcap := o2.cap
    have hbig := o2.big
    have hln := o2.sees.cmd
    have sF := hF.size
    by_cases hjj : 0 < j
    · go_wp2_with fail
      refine (command_any (R) (q) (size) (0) _ hr (by omega) (by omega) (by omega) (by omega) (by omega)).mono ?_
      rintro e w3 ⟨k, a, cc, v, p3, rfl, c3, d3, q3, f3⟩
      have s3 := f3.size
      clear hr
      have hr := q3
      clear q3
      obtain ⟨d3a, d3b⟩ := d3
      clear c3
      replace o2 := o2.fr f3 (by omega)
      replace hF := hF.trans f3
      clear f3
      by_cases hk4 : k = 4
      · subst hk4
        have hn4 := below_new w3 (.cells #[.int .i64 4, .int .i64 a, .int .i64 cc, .int .i64 v] 55)
        replace o2 := o2.below hn4
        replace hr := hr.below hn4
        replace hF := fr_below hF hn4
        clear hn4
        have s4 : w3.heap.size < (w3.alloc (.cells #[.int .i64 4, .int .i64 a, .int .i64 cc, .int .i64 v] 55)).heap.size := Nat.lt_of_lt_of_eq (Nat.lt_succ_self _) (World.size_alloc _ _).symm
        have rb : (w3.alloc (.cells #[.int .i64 4, .int .i64 a, .int .i64 cc, .int .i64 v] 55)).heap[w3.heap.size]? = some (.cells #[.int .i64 4, .int .i64 a, .int .i64 cc, .int .i64 v] 55 (0, 0)) := by have q := heap_alloc_new w3 (.cells #[.int .i64 4, .int .i64 a, .int .i64 cc, .int .i64 v] 55); (try simp only [World.size_alloc, World.size_setCell] at q); exact q
        have mb1_0 : (w3.alloc (.cells #[.int .i64 4, .int .i64 a, .int .i64 cc, .int .i64 v] 55)).cell? ⟨w3.heap.size, 0, none⟩ = some (.int .i64 4) := cell_of_row _ _ 0 _ _ _ rb
        have mb1_1 : (w3.alloc (.cells #[.int .i64 4, .int .i64 a, .int .i64 cc, .int .i64 v] 55)).cell? ⟨w3.heap.size, 1, none⟩ = some (.int .i64 a) := cell_of_row _ _ 1 _ _ _ rb
        have mb1_2 : (w3.alloc (.cells #[.int .i64 4, .int .i64 a, .int .i64 cc, .int .i64 v] 55)).cell? ⟨w3.heap.size, 2, none⟩ = some (.int .i64 cc) := cell_of_row _ _ 2 _ _ _ rb
        have mb1_3 : (w3.alloc (.cells #[.int .i64 4, .int .i64 a, .int .i64 cc, .int .i64 v] 55)).cell? ⟨w3.heap.size, 3, none⟩ = some (.int .i64 v) := cell_of_row _ _ 3 _ _ _ rb
        by_cases hsz : size ≤ 0
        · skip
          have hn5 := below_new (w3.alloc (.cells #[.int .i64 4, .int .i64 a, .int .i64 cc, .int .i64 v] 55)) (.cells #[.int .i64 4, .int .i64 a, .int .i64 cc, .int .i64 v] 55)
          replace rb := rowKeep rb hn5
          replace o2 := o2.below hn5
          replace hr := hr.below hn5
          replace hF := fr_below hF hn5
          have mb2_0 : ((w3.alloc (.cells #[.int .i64 4, .int .i64 a, .int .i64 cc, .int .i64 v] 55)).alloc (.cells #[.int .i64 4, .int .i64 a, .int .i64 cc, .int .i64 v] 55)).cell? ⟨w3.heap.size, 0, none⟩ = some (.int .i64 4) := cell_of_row _ _ 0 _ _ _ rb
          have mb2_1 : ((w3.alloc (.cells #[.int .i64 4, .int .i64 a, .int .i64 cc, .int .i64 v] 55)).alloc (.cells #[.int .i64 4, .int .i64 a, .int .i64 cc, .int .i64 v] 55)).cell? ⟨w3.heap.size, 1, none⟩ = some (.int .i64 a) := cell_of_row _ _ 1 _ _ _ rb
          have mb2_2 : ((w3.alloc (.cells #[.int .i64 4, .int .i64 a, .int .i64 cc, .int .i64 v] 55)).alloc (.cells #[.int .i64 4, .int .i64 a, .int .i64 cc, .int .i64 v] 55)).cell? ⟨w3.heap.size, 2, none⟩ = some (.int .i64 cc) := cell_of_row _ _ 2 _ _ _ rb
          have mb2_3 : ((w3.alloc (.cells #[.int .i64 4, .int .i64 a, .int .i64 cc, .int .i64 v] 55)).alloc (.cells #[.int .i64 4, .int .i64 a, .int .i64 cc, .int .i64 v] 55)).cell? ⟨w3.heap.size, 3, none⟩ = some (.int .i64 v) := cell_of_row _ _ 3 _ _ _ rb
          clear hn5
          have s5 : (w3.alloc (.cells #[.int .i64 4, .int .i64 a, .int .i64 cc, .int .i64 v] 55)).heap.size < ((w3.alloc (.cells #[.int .i64 4, .int .i64 a, .int .i64 cc, .int .i64 v] 55)).alloc (.cells #[.int .i64 4, .int .i64 a, .int .i64 cc, .int .i64 v] 55)).heap.size := Nat.lt_of_lt_of_eq (Nat.lt_succ_self _) (World.size_alloc _ _).symm
          have q1 := (newC (w3.alloc (.cells #[.int .i64 4, .int .i64 a, .int .i64 cc, .int .i64 v] 55)) (4) (a) (cc) (v)).sees
          (try simp only [World.size_alloc, World.size_setCell] at q1)
          have e9 : IntKind.i64.wrap (j - 1) = j - 1 := IntWalk.i64_in _ (by omega)
          go_wp2_with (at_builtin; refine wpList_app _ rfl (.tmp 36) (.tmp 38) _ rfl 55 i0 (.agg #[.int .i64 0, .int .i64 0, .int .i64 0, .int .i64 0]) 4 32 Try.underlying29 hi0 hz0 hz1 hz2 rfl (by decide) _ _ _ _ _ _ rfl o2 _ _ _ _ _ rfl q1 (cmdC_one _) (by omega) (by omega) (by omega) ?_; intro A3 c3 w3 o3 f3; rw [← cmdC_app] at o3; have hr3 := hr.fr f3 (by omega); have hF3 := fr_own hF f3 (by omega); have sz3 := f3.size)
          skip
          go_roundw
          case rel => exact ⟨j - 1, _, n + 1, _, _, _, by omega, by go_num, rfl, o3, by omega, by omega, hr3, hF3⟩
          case measure => simp [intOf]; omega
        · go_wp2_with fail
          generalize (w3.alloc (.cells #[.int .i64 4, .int .i64 a, .int .i64 cc, .int .i64 v] 55)) = u4 at *
          refine (pick_any (R) (p3) (3) _ hr (by omega)).mono ?_
          rintro e w5 ⟨k3, rfl, h5, q5, f5, e5⟩
          have s5 := f5.size
          clear hr
          have hr := q5
          clear q5
          clear mb1_0 mb1_1 mb1_2 mb1_3
          replace rb := rowFr rb f5 (by omega)
          replace o2 := o2.fr f5 (by omega)
          replace hF := hF.trans f5
          have mb2_0 : w5.cell? ⟨w3.heap.size, 0, none⟩ = some (.int .i64 4) := cell_of_row _ _ 0 _ _ _ rb
          have mb2_1 : w5.cell? ⟨w3.heap.size, 1, none⟩ = some (.int .i64 a) := cell_of_row _ _ 1 _ _ _ rb
          have mb2_2 : w5.cell? ⟨w3.heap.size, 2, none⟩ = some (.int .i64 cc) := cell_of_row _ _ 2 _ _ _ rb
          have mb2_3 : w5.cell? ⟨w3.heap.size, 3, none⟩ = some (.int .i64 v) := cell_of_row _ _ 3 _ _ _ rb
          clear f5
          obtain ⟨k30, k31⟩ : 0 ≤ k3 ∧ k3 < 3 := by omega
          clear h5 e5
          by_cases hk3 : k3 ≤ 0
          · skip
            have hn6 := below_new w5 (.cells #[.int .i64 4, .int .i64 a, .int .i64 cc, .int .i64 v] 55)
            replace rb := rowKeep rb hn6
            replace o2 := o2.below hn6
            replace hr := hr.below hn6
            replace hF := fr_below hF hn6
            have mb3_0 : (w5.alloc (.cells #[.int .i64 4, .int .i64 a, .int .i64 cc, .int .i64 v] 55)).cell? ⟨w3.heap.size, 0, none⟩ = some (.int .i64 4) := cell_of_row _ _ 0 _ _ _ rb
            have mb3_1 : (w5.alloc (.cells #[.int .i64 4, .int .i64 a, .int .i64 cc, .int .i64 v] 55)).cell? ⟨w3.heap.size, 1, none⟩ = some (.int .i64 a) := cell_of_row _ _ 1 _ _ _ rb
            have mb3_2 : (w5.alloc (.cells #[.int .i64 4, .int .i64 a, .int .i64 cc, .int .i64 v] 55)).cell? ⟨w3.heap.size, 2, none⟩ = some (.int .i64 cc) := cell_of_row _ _ 2 _ _ _ rb
            have mb3_3 : (w5.alloc (.cells #[.int .i64 4, .int .i64 a, .int .i64 cc, .int .i64 v] 55)).cell? ⟨w3.heap.size, 3, none⟩ = some (.int .i64 v) := cell_of_row _ _ 3 _ _ _ rb
            clear hn6
            have s6 : w5.heap.size < (w5.alloc (.cells #[.int .i64 4, .int .i64 a, .int .i64 cc, .int .i64 v] 55)).heap.size := Nat.lt_of_lt_of_eq (Nat.lt_succ_self _) (World.size_alloc _ _).symm
            have q1 := (newC w5 (4) (a) (cc) (v)).sees
            (try simp only [World.size_alloc, World.size_setCell] at q1)
            have e9 : IntKind.i64.wrap (j - 1) = j - 1 := IntWalk.i64_in _ (by omega)
            go_wp2_with (at_builtin; refine wpList_app _ rfl (.tmp 36) (.tmp 38) _ rfl 55 i0 (.agg #[.int .i64 0, .int .i64 0, .int .i64 0, .int .i64 0]) 4 32 Try.underlying29 hi0 hz0 hz1 hz2 rfl (by decide) _ _ _ _ _ _ rfl o2 _ _ _ _ _ rfl q1 (cmdC_one _) (by omega) (by omega) (by omega) ?_; intro A3 c3 w3 o3 f3; rw [← cmdC_app] at o3; have hr3 := hr.fr f3 (by omega); have hF3 := fr_own hF f3 (by omega); have sz3 := f3.size)
            skip
            go_roundw
            case rel => exact ⟨j - 1, _, n + 1, _, _, _, by omega, by go_num, rfl, o3, by omega, by omega, hr3, hF3⟩
            case measure => simp [intOf]; omega
          · go_wp2_with fail
            refine (pick_any (R) ((p3 + 1)) (size) _ hr (by omega)).mono ?_
            rintro e w6 ⟨k4, rfl, h6, q6, f6, e6⟩
            have s6 := f6.size
            clear hr
            have hr := q6
            clear q6
            clear mb2_0 mb2_1 mb2_2 mb2_3
            replace rb := rowFr rb f6 (by omega)
            replace o2 := o2.fr f6 (by omega)
            replace hF := hF.trans f6
            have mb3_0 : w6.cell? ⟨w3.heap.size, 0, none⟩ = some (.int .i64 4) := cell_of_row _ _ 0 _ _ _ rb
            have mb3_1 : w6.cell? ⟨w3.heap.size, 1, none⟩ = some (.int .i64 a) := cell_of_row _ _ 1 _ _ _ rb
            have mb3_2 : w6.cell? ⟨w3.heap.size, 2, none⟩ = some (.int .i64 cc) := cell_of_row _ _ 2 _ _ _ rb
            have mb3_3 : w6.cell? ⟨w3.heap.size, 3, none⟩ = some (.int .i64 v) := cell_of_row _ _ 3 _ _ _ rb
            clear f6
            obtain ⟨k40, k41⟩ : 0 ≤ k4 ∧ k4 < size := by omega
            clear h6 e6
            have z7_0 := frzRow rb 0
            have z7_1 := frzRow rb 1
            have z7_2 := frzRow rb 2
            have z7_3 := frzRow rb 3
            replace rb := set43 (set42 (set41 (set40 (rb) (.int .i64 1)) (.int .i64 k4)) (.int .i64 1)) (.int .i64 0)
            replace o2 := ((((o2).setOther ⟨w3.heap.size, 0, none⟩ (.int .i64 1) (by show w3.heap.size < _ ∨ _ ≤ w3.heap.size; omega)).setOther ⟨w3.heap.size, 1, none⟩ (.int .i64 k4) (by show w3.heap.size < _ ∨ _ ≤ w3.heap.size; omega)).setOther ⟨w3.heap.size, 2, none⟩ (.int .i64 1) (by show w3.heap.size < _ ∨ _ ≤ w3.heap.size; omega)).setOther ⟨w3.heap.size, 3, none⟩ (.int .i64 0) (by show w3.heap.size < _ ∨ _ ≤ w3.heap.size; omega)
            replace hr := rd_setc (rd_setc (rd_setc (rd_setc (hr) ⟨w3.heap.size, 0, none⟩ (.int .i64 1) (by show _ < w3.heap.size; omega)) ⟨w3.heap.size, 1, none⟩ (.int .i64 k4) (by show _ < w3.heap.size; omega)) ⟨w3.heap.size, 2, none⟩ (.int .i64 1) (by show _ < w3.heap.size; omega)) ⟨w3.heap.size, 3, none⟩ (.int .i64 0) (by show _ < w3.heap.size; omega)
            replace hF := fr_setd (fr_setd (fr_setd (fr_setd (hF) (p := ⟨w3.heap.size, 0, none⟩) (by show _ ≤ w3.heap.size; omega) (.int .i64 1)) (p := ⟨w3.heap.size, 1, none⟩) (by show _ ≤ w3.heap.size; omega) (.int .i64 k4)) (p := ⟨w3.heap.size, 2, none⟩) (by show _ ≤ w3.heap.size; omega) (.int .i64 1)) (p := ⟨w3.heap.size, 3, none⟩) (by show _ ≤ w3.heap.size; omega) (.int .i64 0)
            have s7 : w6.heap.size ≤ ((((w6.setCell ⟨w3.heap.size, 0, none⟩ (.int .i64 1)).setCell ⟨w3.heap.size, 1, none⟩ (.int .i64 k4)).setCell ⟨w3.heap.size, 2, none⟩ (.int .i64 1)).setCell ⟨w3.heap.size, 3, none⟩ (.int .i64 0)).heap.size := by simp only [World.size_setCell]; exact Nat.le_refl _
            have mb4_0 : ((((w6.setCell ⟨w3.heap.size, 0, none⟩ (.int .i64 1)).setCell ⟨w3.heap.size, 1, none⟩ (.int .i64 k4)).setCell ⟨w3.heap.size, 2, none⟩ (.int .i64 1)).setCell ⟨w3.heap.size, 3, none⟩ (.int .i64 0)).cell? ⟨w3.heap.size, 0, none⟩ = some (.int .i64 1) := cell_of_row _ _ 0 _ _ _ rb
            have mb4_1 : ((((w6.setCell ⟨w3.heap.size, 0, none⟩ (.int .i64 1)).setCell ⟨w3.heap.size, 1, none⟩ (.int .i64 k4)).setCell ⟨w3.heap.size, 2, none⟩ (.int .i64 1)).setCell ⟨w3.heap.size, 3, none⟩ (.int .i64 0)).cell? ⟨w3.heap.size, 1, none⟩ = some (.int .i64 k4) := cell_of_row _ _ 1 _ _ _ rb
            have mb4_2 : ((((w6.setCell ⟨w3.heap.size, 0, none⟩ (.int .i64 1)).setCell ⟨w3.heap.size, 1, none⟩ (.int .i64 k4)).setCell ⟨w3.heap.size, 2, none⟩ (.int .i64 1)).setCell ⟨w3.heap.size, 3, none⟩ (.int .i64 0)).cell? ⟨w3.heap.size, 2, none⟩ = some (.int .i64 1) := cell_of_row _ _ 2 _ _ _ rb
            have mb4_3 : ((((w6.setCell ⟨w3.heap.size, 0, none⟩ (.int .i64 1)).setCell ⟨w3.heap.size, 1, none⟩ (.int .i64 k4)).setCell ⟨w3.heap.size, 2, none⟩ (.int .i64 1)).setCell ⟨w3.heap.size, 3, none⟩ (.int .i64 0)).cell? ⟨w3.heap.size, 3, none⟩ = some (.int .i64 0) := cell_of_row _ _ 3 _ _ _ rb
            go_upto_region 8 with fail
            clear z7_0 z7_1 z7_2 z7_3 mb3_0 mb3_1 mb3_2 mb3_3
            generalize ((((w6.setCell ⟨w3.heap.size, 0, none⟩ (.int .i64 1)).setCell ⟨w3.heap.size, 1, none⟩ (.int .i64 k4)).setCell ⟨w3.heap.size, 2, none⟩ (.int .i64 1)).setCell ⟨w3.heap.size, 3, none⟩ (.int .i64 0)) = u7 at *
            have hn8 := below_new u7 (.cells #[.int .i64 1, .int .i64 k4, .int .i64 1, .int .i64 0] 55)
            replace rb := rowKeep rb hn8
            replace o2 := o2.below hn8
            replace hr := hr.below hn8
            replace hF := fr_below hF hn8
            have mb5_0 : (u7.alloc (.cells #[.int .i64 1, .int .i64 k4, .int .i64 1, .int .i64 0] 55)).cell? ⟨w3.heap.size, 0, none⟩ = some (.int .i64 1) := cell_of_row _ _ 0 _ _ _ rb
            have mb5_1 : (u7.alloc (.cells #[.int .i64 1, .int .i64 k4, .int .i64 1, .int .i64 0] 55)).cell? ⟨w3.heap.size, 1, none⟩ = some (.int .i64 k4) := cell_of_row _ _ 1 _ _ _ rb
            have mb5_2 : (u7.alloc (.cells #[.int .i64 1, .int .i64 k4, .int .i64 1, .int .i64 0] 55)).cell? ⟨w3.heap.size, 2, none⟩ = some (.int .i64 1) := cell_of_row _ _ 2 _ _ _ rb
            have mb5_3 : (u7.alloc (.cells #[.int .i64 1, .int .i64 k4, .int .i64 1, .int .i64 0] 55)).cell? ⟨w3.heap.size, 3, none⟩ = some (.int .i64 0) := cell_of_row _ _ 3 _ _ _ rb
            clear hn8
            have s8 : u7.heap.size < (u7.alloc (.cells #[.int .i64 1, .int .i64 k4, .int .i64 1, .int .i64 0] 55)).heap.size := Nat.lt_of_lt_of_eq (Nat.lt_succ_self _) (World.size_alloc _ _).symm
            have q1 := (newC u7 (1) (k4) (1) (0)).sees
            (try simp only [World.size_alloc, World.size_setCell] at q1)
            have e9 : IntKind.i64.wrap (j - 1) = j - 1 := IntWalk.i64_in _ (by omega)
            go_wp2_with (at_builtin; refine wpList_app _ rfl (.tmp 36) (.tmp 38) _ rfl 55 i0 (.agg #[.int .i64 0, .int .i64 0, .int .i64 0, .int .i64 0]) 4 32 Try.underlying29 hi0 hz0 hz1 hz2 rfl (by decide) _ _ _ _ _ _ rfl o2 _ _ _ _ _ rfl q1 (cmdC_one _) (by omega) (by omega) (by omega) ?_; intro A3 c3 w3 o3 f3; rw [← cmdC_app] at o3; have hr3 := hr.fr f3 (by omega); have hF3 := fr_own hF f3 (by omega); have sz3 := f3.size)
            skip
            go_roundw
            case rel => exact ⟨j - 1, _, n + 1, _, _, _, by omega, by go_num, rfl, o3, by omega, by omega, hr3, hF3⟩
            case measure => simp [intOf]; omega
      · clear hln
        have hn4 := below_new w3 (.cells #[.int .i64 k, .int .i64 a, .int .i64 cc, .int .i64 v] 55)
        replace o2 := o2.below hn4
        replace hr := hr.below hn4
        replace hF := fr_below hF hn4
        clear hn4
        have s4 : w3.heap.size < (w3.alloc (.cells #[.int .i64 k, .int .i64 a, .int .i64 cc, .int .i64 v] 55)).heap.size := Nat.lt_of_lt_of_eq (Nat.lt_succ_self _) (World.size_alloc _ _).symm
        have rb : (w3.alloc (.cells #[.int .i64 k, .int .i64 a, .int .i64 cc, .int .i64 v] 55)).heap[w3.heap.size]? = some (.cells #[.int .i64 k, .int .i64 a, .int .i64 cc, .int .i64 v] 55 (0, 0)) := by have q := heap_alloc_new w3 (.cells #[.int .i64 k, .int .i64 a, .int .i64 cc, .int .i64 v] 55); (try simp only [World.size_alloc, World.size_setCell] at q); exact q
        have mb1_0 : (w3.alloc (.cells #[.int .i64 k, .int .i64 a, .int .i64 cc, .int .i64 v] 55)).cell? ⟨w3.heap.size, 0, none⟩ = some (.int .i64 k) := cell_of_row _ _ 0 _ _ _ rb
        have mb1_1 : (w3.alloc (.cells #[.int .i64 k, .int .i64 a, .int .i64 cc, .int .i64 v] 55)).cell? ⟨w3.heap.size, 1, none⟩ = some (.int .i64 a) := cell_of_row _ _ 1 _ _ _ rb
        have mb1_2 : (w3.alloc (.cells #[.int .i64 k, .int .i64 a, .int .i64 cc, .int .i64 v] 55)).cell? ⟨w3.heap.size, 2, none⟩ = some (.int .i64 cc) := cell_of_row _ _ 2 _ _ _ rb
        have mb1_3 : (w3.alloc (.cells #[.int .i64 k, .int .i64 a, .int .i64 cc, .int .i64 v] 55)).cell? ⟨w3.heap.size, 3, none⟩ = some (.int .i64 v) := cell_of_row _ _ 3 _ _ _ rb
        have hn5 := below_new (w3.alloc (.cells #[.int .i64 k, .int .i64 a, .int .i64 cc, .int .i64 v] 55)) (.cells #[.int .i64 k, .int .i64 a, .int .i64 cc, .int .i64 v] 55)
        replace rb := rowKeep rb hn5
        replace o2 := o2.below hn5
        replace hr := hr.below hn5
        replace hF := fr_below hF hn5
        have mb2_0 : ((w3.alloc (.cells #[.int .i64 k, .int .i64 a, .int .i64 cc, .int .i64 v] 55)).alloc (.cells #[.int .i64 k, .int .i64 a, .int .i64 cc, .int .i64 v] 55)).cell? ⟨w3.heap.size, 0, none⟩ = some (.int .i64 k) := cell_of_row _ _ 0 _ _ _ rb
        have mb2_1 : ((w3.alloc (.cells #[.int .i64 k, .int .i64 a, .int .i64 cc, .int .i64 v] 55)).alloc (.cells #[.int .i64 k, .int .i64 a, .int .i64 cc, .int .i64 v] 55)).cell? ⟨w3.heap.size, 1, none⟩ = some (.int .i64 a) := cell_of_row _ _ 1 _ _ _ rb
        have mb2_2 : ((w3.alloc (.cells #[.int .i64 k, .int .i64 a, .int .i64 cc, .int .i64 v] 55)).alloc (.cells #[.int .i64 k, .int .i64 a, .int .i64 cc, .int .i64 v] 55)).cell? ⟨w3.heap.size, 2, none⟩ = some (.int .i64 cc) := cell_of_row _ _ 2 _ _ _ rb
        have mb2_3 : ((w3.alloc (.cells #[.int .i64 k, .int .i64 a, .int .i64 cc, .int .i64 v] 55)).alloc (.cells #[.int .i64 k, .int .i64 a, .int .i64 cc, .int .i64 v] 55)).cell? ⟨w3.heap.size, 3, none⟩ = some (.int .i64 v) := cell_of_row _ _ 3 _ _ _ rb
        clear hn5
        have s5 : (w3.alloc (.cells #[.int .i64 k, .int .i64 a, .int .i64 cc, .int .i64 v] 55)).heap.size < ((w3.alloc (.cells #[.int .i64 k, .int .i64 a, .int .i64 cc, .int .i64 v] 55)).alloc (.cells #[.int .i64 k, .int .i64 a, .int .i64 cc, .int .i64 v] 55)).heap.size := Nat.lt_of_lt_of_eq (Nat.lt_succ_self _) (World.size_alloc _ _).symm
        have q1 := (newC (w3.alloc (.cells #[.int .i64 k, .int .i64 a, .int .i64 cc, .int .i64 v] 55)) (k) (a) (cc) (v)).sees
        (try simp only [World.size_alloc, World.size_setCell] at q1)
        have e9 : IntKind.i64.wrap (j - 1) = j - 1 := IntWalk.i64_in _ (by omega)
        go_wp2_with (at_builtin; refine wpList_app _ rfl (.tmp 36) (.tmp 38) _ rfl 55 i0 (.agg #[.int .i64 0, .int .i64 0, .int .i64 0, .int .i64 0]) 4 32 Try.underlying29 hi0 hz0 hz1 hz2 rfl (by decide) _ _ _ _ _ _ rfl o2 _ _ _ _ _ rfl q1 (cmdC_one _) (by omega) (by omega) (by omega) ?_; intro A3 c3 w3 o3 f3; rw [← cmdC_app] at o3; have hr3 := hr.fr f3 (by omega); have hF3 := fr_own hF f3 (by omega); have sz3 := f3.size)
        skip
        go_roundw
        case rel => exact ⟨j - 1, _, n + 1, _, _, _, by omega, by go_num, rfl, o3, by omega, by omega, hr3, hF3⟩
        case measure => simp [intOf]; omega
    · go_wp2_with fail
      refine (odd_any (R) (q) (m) _ hr (by omega) (by omega) (by omega)).mono ?_
      rintro e w3 ⟨bb, q4, rfl, h3, q3, f3, e3⟩
      have s3 := f3.size
      clear hr
      have hr := q3
      clear q3
      replace o2 := o2.fr f3 (by omega)
      replace hF := hF.trans f3
      clear f3
      have q40 := h3.1
      have q41 := h3.2
      clear h3 e3
      cases bb
      · go_wp2_with fail
        go_ret
        exact ⟨_, n, _, l, q4, rfl, o2.wide (by omega) (by omega), by omega, by omega, hr, hF⟩
      · by_cases hn0 : 0 < n
        · go_wp2_with fail
          refine (pick_any (R) (q4) (2) _ hr (by omega)).mono ?_
          rintro e w4 ⟨k2, rfl, h4, q4, f4, e4⟩
          have s4 := f4.size
          clear hr
          have hr := q4
          clear q4
          replace o2 := o2.fr f4 (by omega)
          replace hF := hF.trans f4
          clear f4
          obtain ⟨k20, k21⟩ : 0 ≤ k2 ∧ k2 < 2 := by omega
          clear h4 e4
          by_cases hk2 : k2 = 0
          · subst hk2
            go_wp2_with fail
            refine (pick_any (R) ((q4 + 1)) ((n : Int)) _ hr (by omega)).mono ?_
            rintro e w5 ⟨i1, rfl, h5, q5, f5, e5⟩
            have s5 := f5.size
            clear hr
            have hr := q5
            clear q5
            replace o2 := o2.fr f5 (by omega)
            replace hF := hF.trans f5
            clear f5
            obtain ⟨i10, i11⟩ : 0 ≤ i1 ∧ i1 < (n : Int) := by omega
            clear h5 e5
            obtain ⟨t, rfl⟩ := Int.eq_ofNat_of_zero_le i10
            have ht : t < n := by omega
            go_wp2_with fail
            refine (command_any (R) (((q4 + 1) + 1)) (size) (1) _ hr (by omega) (by omega) (by omega) (by omega) (by omega)).mono ?_
            rintro e w6 ⟨k, a, cc, v, p6, rfl, c6, d6, q6, f6⟩
            have s6 := f6.size
            clear hr
            have hr := q6
            clear q6
            obtain ⟨d6a, d6b⟩ := d6
            clear c6
            replace o2 := o2.fr f6 (by omega)
            replace hF := hF.trans f6
            clear f6
            obtain ⟨g2, hA, hg1, hg2, hg3⟩ := o2.head (by omega)
            subst hA
            have z0 := o2.frozen rfl (t * 4)
            have z1 := o2.frozen rfl (t * 4 + 1)
            have z2 := o2.frozen rfl (t * 4 + 2)
            have z3 := o2.frozen rfl (t * 4 + 3)
            have hxl : (cmdC l).length = n * 4 := o2.len
            have y0 := o2.cell rfl (t * 4) _ (List.getElem?_eq_getElem (by omega))
            have y1 := o2.cell rfl (t * 4 + 1) _ (List.getElem?_eq_getElem (by omega))
            have y2 := o2.cell rfl (t * 4 + 2) _ (List.getElem?_eq_getElem (by omega))
            have y3 := o2.cell rfl (t * 4 + 3) _ (List.getElem?_eq_getElem (by omega))
            have o5 := ((((o2.set rfl (t * 4) (.int .i64 k)).set rfl (t * 4 + 1) (.int .i64 a)).set rfl (t * 4 + 2) (.int .i64 cc)).set rfl (t * 4 + 3) (.int .i64 v))
            rw [cmdC_set l t (by omega)] at o5
            have hr5 := rd_setc (rd_setc (rd_setc (rd_setc (hr) ⟨g2, t * 4, none⟩ (.int .i64 k) (by show _ < g2; omega)) ⟨g2, t * 4 + 1, none⟩ (.int .i64 a) (by show _ < g2; omega)) ⟨g2, t * 4 + 2, none⟩ (.int .i64 cc) (by show _ < g2; omega)) ⟨g2, t * 4 + 3, none⟩ (.int .i64 v) (by show _ < g2; omega)
            have hF5 := fr_setd (fr_setd (fr_setd (fr_setd (hF) (p := ⟨g2, t * 4, none⟩) (by show _ ≤ g2; omega) (.int .i64 k)) (p := ⟨g2, t * 4 + 1, none⟩) (by show _ ≤ g2; omega) (.int .i64 a)) (p := ⟨g2, t * 4 + 2, none⟩) (by show _ ≤ g2; omega) (.int .i64 cc)) (p := ⟨g2, t * 4 + 3, none⟩) (by show _ ≤ g2; omega) (.int .i64 v)
            have s5z : w6.heap.size ≤ ((((w6.setCell ⟨g2, t * 4, none⟩ (.int .i64 k)).setCell ⟨g2, t * 4 + 1, none⟩ (.int .i64 a)).setCell ⟨g2, t * 4 + 2, none⟩ (.int .i64 cc)).setCell ⟨g2, t * 4 + 3, none⟩ (.int .i64 v)).heap.size := by simp only [World.size_setCell]; exact Nat.le_refl _
            have O5 := Lib.hid o5
            clear hr hF o5 o2
            go_wp2_with fail
            go_ret
            exact ⟨_, n, _, _, p6, rfl, O5.out.wide (by omega) (by omega), by omega, by omega, hr5, hF5⟩
          · have hmk := run_make_rowN (P := Try.prog) 29 55 i0 (.agg #[.int .i64 0, .int .i64 0, .int .i64 0, .int .i64 0]) Try.underlying29 hi0 hz0 .i64 .i64 13 13 (Nat.le_refl _) (by rw [hz2]; omega) (by omega)
            rw [hz1] at hmk
            simp only [Value.cells] at hmk
            rw [show ((13 : Nat) : Int) = 13 from rfl] at hmk
            clear o2 hln hcap hbig
            have om := Own.made (w := w4) (e := 55) (cur := madeCells #[.int .i64 0, .int .i64 0, .int .i64 0, .int .i64 0] (13 * 4)) (s := 4) (n := 13) (c := 13) (xs := cmdC (List.replicate 13 ⟨0, 0, 0, 0⟩)) (lo := w4.heap.size) (hi := w4.heap.size + 1) (size_madeCells _ _).symm (Nat.le_refl _) (by omega) (by rw [cmdC_made]; exact List.take_of_length_le (by rw [cmdC_length, List.length_replicate]; exact Nat.le_refl _)) (Nat.le_refl _) (Nat.lt_succ_self _)
            have hn5 := below_new w4 (.cells (madeCells #[.int .i64 0, .int .i64 0, .int .i64 0, .int .i64 0] (13 * 4)) 55)
            replace hr := hr.below hn5
            replace hF := fr_below hF hn5
            clear hn5
            have s5 : w4.heap.size < (w4.alloc (.cells (madeCells #[.int .i64 0, .int .i64 0, .int .i64 0, .int .i64 0] (13 * 4)) 55)).heap.size := Nat.lt_of_lt_of_eq (Nat.lt_succ_self _) (World.size_alloc _ _).symm
            go_wp2_with fail
            go_ret
            exact ⟨_, 13, _, List.replicate 13 ⟨0, 0, 0, 0⟩, (q4 + 1), rfl, om.wide (by omega) (by first | omega | (simp only [World.size_alloc]; omega)), by omega, by omega, hr, hF⟩
        · have hmk := run_make_rowN (P := Try.prog) 29 55 i0 (.agg #[.int .i64 0, .int .i64 0, .int .i64 0, .int .i64 0]) Try.underlying29 hi0 hz0 .i64 .i64 13 13 (Nat.le_refl _) (by rw [hz2]; omega) (by omega)
          rw [hz1] at hmk
          simp only [Value.cells] at hmk
          rw [show ((13 : Nat) : Int) = 13 from rfl] at hmk
          clear o2 hln hcap hbig
          have om := Own.made (w := w3) (e := 55) (cur := madeCells #[.int .i64 0, .int .i64 0, .int .i64 0, .int .i64 0] (13 * 4)) (s := 4) (n := 13) (c := 13) (xs := cmdC (List.replicate 13 ⟨0, 0, 0, 0⟩)) (lo := w3.heap.size) (hi := w3.heap.size + 1) (size_madeCells _ _).symm (Nat.le_refl _) (by omega) (by rw [cmdC_made]; exact List.take_of_length_le (by rw [cmdC_length, List.length_replicate]; exact Nat.le_refl _)) (Nat.le_refl _) (Nat.lt_succ_self _)
          have hn4 := below_new w3 (.cells (madeCells #[.int .i64 0, .int .i64 0, .int .i64 0, .int .i64 0] (13 * 4)) 55)
          replace hr := hr.below hn4
          replace hF := fr_below hF hn4
          clear hn4
          have s4 : w3.heap.size < (w3.alloc (.cells (madeCells #[.int .i64 0, .int .i64 0, .int .i64 0, .int .i64 0] (13 * 4)) 55)).heap.size := Nat.lt_of_lt_of_eq (Nat.lt_succ_self _) (World.size_alloc _ _).symm
          go_wp2_with fail
          go_ret
          exact ⟨_, 13, _, List.replicate 13 ⟨0, 0, 0, 0⟩, q4, rfl, om.wide (by omega) (by first | omega | (simp only [World.size_alloc]; omega)), by omega, by omega, hr, hF⟩
end Go.Proofs.Ythnebfcclkebeaa
