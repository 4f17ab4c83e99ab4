/-
  Walk: the draw of rings of answers (l20Answers).
-/
import Derived.Test.YthkiollagnjfaaaN9
import Derived.Test.YthkiollagnjfaaaN11
import Derived.Test.YthkiollagnjfaaaDR
import Derived.Deep.DeepCutAuto
namespace Go.Proofs.Ythkiollagnjfaaa
open Go.RowKit
set_option linter.unusedSimpArgs false
set_option linter.unusedVariables false
/-- What l20Answers leaves: some ring of answers in new memory; the reader some places further; nothing else has changed. -/
def RetAns1 (w : World) (R p : Nat) (en : Ending) (w' : World) : Prop :=
  ∃ A c d ps pp tk tp pd q, en = .returned (.agg #[.slice A (List.length d) c, .int .i64 ps, .bool pp, .int .i64 tk, .bool tp, .int .i64 pd]) ∧ (Own w' w.heap.size w'.heap.size 46 2 A (List.length d) c (ansC d) ∧ List.length d ≤ 17) ∧ (p ≤ q ∧ q ≤ p + 200) ∧ Rd w' R q ∧ Fr R (R + 1) w w'
/-- the ring's box while it is drawn -/
structure AtAns (w wr : World) (R p G : Nat) (j : Int) (A : Option Addr) (c : Nat) (d : List (Int × Bool)) (ps : Int) (pp : Bool) (tk : Int) (tp : Bool) (pd : Int) (q lo hi : Nat) : Prop where
  rr : wr.heap[w.heap.size]? = some (.cells #[.slice none 0 0, .int .i64 0, .bool false, .int .i64 0, .bool false, .int .i64 0] 24 (0, 0))
  ra : wr.heap[G]? = some (.cells #[.slice A d.length c, .int .i64 ps, .bool pp, .int .i64 tk, .bool tp, .int .i64 pd] 24 (0, 0))
  o2 : Own wr lo hi 46 2 A d.length c (ansC d)
  lo_ : w.heap.size < lo
  off : hi ≤ G ∨ G < lo
  hi_ : hi ≤ wr.heap.size
  val : aval ⟨d, ps, pp, tk, tp, pd⟩ = true
  q_ : p ≤ q ∧ (q : Int) + 3 * j ≤ p + 60
  rd : Rd wr R q
  fr : Fr R (R + 1) w wr
theorem apost_some (a : Ans) (v : Int) (h : aval a = true) : ∃ d ps pp tk tp pd, apost a v = ⟨d, ps, pp, tk, tp, pd⟩ ∧ aval ⟨d, ps, pp, tk, tp, pd⟩ = true := by
  refine ⟨_, _, _, _, _, _, rfl, ?_⟩
  show aval (apost a v) = true
  by_cases hf : a.pend = (a.n : Int)
  · rw [(apost_full a v h hf).1]; exact h
  · have h1 := ((aval_iff a).1 h).1.e1
    rw [(apost_put a v h hf).1]; exact aput_val a v h (by omega)
theorem atake_some (a : Ans) (h : aval a = true) : ∃ d ps pp tk tp pd, atake a = ⟨d, ps, pp, tk, tp, pd⟩ ∧ aval ⟨d, ps, pp, tk, tp, pd⟩ = true := by
  refine ⟨_, _, _, _, _, _, rfl, ?_⟩
  show aval (atake a) = true
  by_cases hp : 0 < a.pend
  · rw [(atake_cut a h hp).1]; exact acut_val a h hp
  · rw [(atake_none a h (by omega)).1]; exact h
theorem aval_bd (d : List (Int × Bool)) (ps : Int) (pp : Bool) (tk : Int) (tp : Bool) (pd : Int) (h : aval ⟨d, ps, pp, tk, tp, pd⟩ = true) : (1 ≤ d.length ∧ d.length ≤ 16) ∧ (0 ≤ ps ∧ ps < d.length) ∧ (0 ≤ pd ∧ pd ≤ d.length) := by
  have h1 := ((aval_iff _).1 h).1
  exact ⟨⟨h1.n1, h1.n16⟩, ⟨h1.p0, h1.p1⟩, ⟨h1.e0, h1.e1⟩⟩
theorem ansC_flip (d : List (Int × Bool)) (t : Nat) (ht : t < d.length) (x : Int) (p : Bool) (h : d[t] = (x, p)) : (ansC d).set (t * 2 + 1) (.bool (!p)) = ansC (d.set t (x, !p)) := fm_set acel2 d t ht 1 (by omega) _ _ (by rw [h]; rfl)
theorem ansC_made (m : Nat) : (madeCells #[Value.int .i64 0, .bool false] (m * 2)).toList = ansC (List.replicate m (0, false)) := by
  have h0 := madeCells_rep #[Value.int .i64 0, .bool false] (by decide) m
  have e2 : (#[Value.int .i64 0, .bool false] : Array Value).size = 2 := rfl
  rw [e2] at h0
  rw [h0]
  clear h0 e2
  induction m with
  | zero => rfl
  | succ m ih => rw [List.replicate_succ, List.flatMap_cons, ih, List.replicate_succ]; rfl
set_option maxHeartbeats 20000000 in
theorem answers_any (R p : Nat) (m : Int) (w : World) (hr : Rd w R p) (hp : p ≤ 1000000000000) (hm1 : -9223372036854775808 < m) (hm2 : m ≤ 9223372036854775807) :
    Calls Try.prog 42 #[.pointer (some ⟨R, 0, none⟩), .int .i64 m] w (RetAns1 w R p) := by
  have hRw := hr.lt
  have hF : Fr R (R + 1) w w := Fr.refl _ _ _
  have hn1 := below_new w (.cells #[.slice none 0 0, .int .i64 0, .bool false, .int .i64 0, .bool false, .int .i64 0] 24)
  replace hr := hr.below hn1
  replace hF := fr_below hF hn1
  clear hn1
  have s1 : w.heap.size < (w.alloc (.cells #[.slice none 0 0, .int .i64 0, .bool false, .int .i64 0, .bool false, .int .i64 0] 24)).heap.size := Nat.lt_of_lt_of_eq (Nat.lt_succ_self _) (World.size_alloc _ _).symm
  have rr : (w.alloc (.cells #[.slice none 0 0, .int .i64 0, .bool false, .int .i64 0, .bool false, .int .i64 0] 24)).heap[w.heap.size]? = some (.cells #[.slice none 0 0, .int .i64 0, .bool false, .int .i64 0, .bool false, .int .i64 0] 24 (0, 0)) := by have q := heap_alloc_new w (.cells #[.slice none 0 0, .int .i64 0, .bool false, .int .i64 0, .bool false, .int .i64 0] 24); (try simp only [World.size_alloc, World.size_setCell] at q); exact q
  have mr1_0 : (w.alloc (.cells #[.slice none 0 0, .int .i64 0, .bool false, .int .i64 0, .bool false, .int .i64 0] 24)).cell? ⟨w.heap.size, 0, none⟩ = some (.slice none 0 0) := cell_of_row _ _ 0 _ _ _ rr
  have mr1_1 : (w.alloc (.cells #[.slice none 0 0, .int .i64 0, .bool false, .int .i64 0, .bool false, .int .i64 0] 24)).cell? ⟨w.heap.size, 1, none⟩ = some (.int .i64 0) := cell_of_row _ _ 1 _ _ _ rr
  have mr1_2 : (w.alloc (.cells #[.slice none 0 0, .int .i64 0, .bool false, .int .i64 0, .bool false, .int .i64 0] 24)).cell? ⟨w.heap.size, 2, none⟩ = some (.bool false) := cell_of_row _ _ 2 _ _ _ rr
  have mr1_3 : (w.alloc (.cells #[.slice none 0 0, .int .i64 0, .bool false, .int .i64 0, .bool false, .int .i64 0] 24)).cell? ⟨w.heap.size, 3, none⟩ = some (.int .i64 0) := cell_of_row _ _ 3 _ _ _ rr
  have mr1_4 : (w.alloc (.cells #[.slice none 0 0, .int .i64 0, .bool false, .int .i64 0, .bool false, .int .i64 0] 24)).cell? ⟨w.heap.size, 4, none⟩ = some (.bool false) := cell_of_row _ _ 4 _ _ _ rr
  have mr1_5 : (w.alloc (.cells #[.slice none 0 0, .int .i64 0, .bool false, .int .i64 0, .bool false, .int .i64 0] 24)).cell? ⟨w.heap.size, 5, none⟩ = some (.int .i64 0) := cell_of_row _ _ 5 _ _ _ rr
  go_enter Try.func42, Try.ntmps42
  go_wp2_with fail
  generalize (w.alloc (.cells #[.slice none 0 0, .int .i64 0, .bool false, .int .i64 0, .bool false, .int .i64 0] 24)) = u1 at *
  refine (pick_any (R) (p) (5) _ hr (by omega)).mono ?_
  rintro e w2 ⟨k1, rfl, h2, q2, f2, e2⟩
  have s2 := f2.size
  clear hr
  have hr := q2
  clear q2
  clear mr1_0 mr1_1 mr1_2 mr1_3 mr1_4 mr1_5
  replace rr := rowFr rr f2 (by omega)
  replace hF := hF.trans f2
  have mr2_0 : w2.cell? ⟨w.heap.size, 0, none⟩ = some (.slice none 0 0) := cell_of_row _ _ 0 _ _ _ rr
  have mr2_1 : w2.cell? ⟨w.heap.size, 1, none⟩ = some (.int .i64 0) := cell_of_row _ _ 1 _ _ _ rr
  have mr2_2 : w2.cell? ⟨w.heap.size, 2, none⟩ = some (.bool false) := cell_of_row _ _ 2 _ _ _ rr
  have mr2_3 : w2.cell? ⟨w.heap.size, 3, none⟩ = some (.int .i64 0) := cell_of_row _ _ 3 _ _ _ rr
  have mr2_4 : w2.cell? ⟨w.heap.size, 4, none⟩ = some (.bool false) := cell_of_row _ _ 4 _ _ _ rr
  have mr2_5 : w2.cell? ⟨w.heap.size, 5, none⟩ = some (.int .i64 0) := cell_of_row _ _ 5 _ _ _ rr
  clear f2
  obtain ⟨k10, k11⟩ : 0 ≤ k1 ∧ k1 < 5 := by omega
  clear h2 e2
  have e1 : IntKind.i64.wrap (1 + k1) = 1 + k1 := IntWalk.i64_in _ (by omega)
  go_wp2_with fail
  clear e1
  have hw1 : win (1 + k1) 1 16 = true := (win_iff _ _ _).2 (by omega)
  have hv0 := (anew_val (1 + k1)).trans hw1
  have hn0 : anew (1 + k1) = ⟨(anew (1 + k1)).ents, 0, true, 0, true, 0⟩ := by unfold anew; rw [if_pos hw1]
  rw [hn0] at hv0
  have HW := Lib.hid hw1
  have HV := Lib.hid hv0
  clear hw1 hv0 hn0
  refine (specNewAnswers_any (1 + k1) _).mono ?_
  rintro e w3 ⟨A2, c2, rfl, o2, b3⟩
  have s3 := b3.size
  clear mr2_0 mr2_1 mr2_2 mr2_3 mr2_4 mr2_5
  replace rr := rowKeep rr b3
  replace hr := hr.below b3
  replace hF := fr_below hF b3
  have mr3_0 : w3.cell? ⟨w.heap.size, 0, none⟩ = some (.slice none 0 0) := cell_of_row _ _ 0 _ _ _ rr
  have mr3_1 : w3.cell? ⟨w.heap.size, 1, none⟩ = some (.int .i64 0) := cell_of_row _ _ 1 _ _ _ rr
  have mr3_2 : w3.cell? ⟨w.heap.size, 2, none⟩ = some (.bool false) := cell_of_row _ _ 2 _ _ _ rr
  have mr3_3 : w3.cell? ⟨w.heap.size, 3, none⟩ = some (.int .i64 0) := cell_of_row _ _ 3 _ _ _ rr
  have mr3_4 : w3.cell? ⟨w.heap.size, 4, none⟩ = some (.bool false) := cell_of_row _ _ 4 _ _ _ rr
  have mr3_5 : w3.cell? ⟨w.heap.size, 5, none⟩ = some (.int .i64 0) := cell_of_row _ _ 5 _ _ _ rr
  clear b3
  generalize (anew (1 + k1)).ents = d at *
  simp only [ansR, HW.out]
  have hn4 := below_new w3 (.cells #[.slice A2 d.length c2, .int .i64 0, .bool true, .int .i64 0, .bool true, .int .i64 0] 24)
  replace rr := rowKeep rr hn4
  replace o2 := o2.below hn4
  replace hr := hr.below hn4
  replace hF := fr_below hF hn4
  have mr4_0 : (w3.alloc (.cells #[.slice A2 d.length c2, .int .i64 0, .bool true, .int .i64 0, .bool true, .int .i64 0] 24)).cell? ⟨w.heap.size, 0, none⟩ = some (.slice none 0 0) := cell_of_row _ _ 0 _ _ _ rr
  have mr4_1 : (w3.alloc (.cells #[.slice A2 d.length c2, .int .i64 0, .bool true, .int .i64 0, .bool true, .int .i64 0] 24)).cell? ⟨w.heap.size, 1, none⟩ = some (.int .i64 0) := cell_of_row _ _ 1 _ _ _ rr
  have mr4_2 : (w3.alloc (.cells #[.slice A2 d.length c2, .int .i64 0, .bool true, .int .i64 0, .bool true, .int .i64 0] 24)).cell? ⟨w.heap.size, 2, none⟩ = some (.bool false) := cell_of_row _ _ 2 _ _ _ rr
  have mr4_3 : (w3.alloc (.cells #[.slice A2 d.length c2, .int .i64 0, .bool true, .int .i64 0, .bool true, .int .i64 0] 24)).cell? ⟨w.heap.size, 3, none⟩ = some (.int .i64 0) := cell_of_row _ _ 3 _ _ _ rr
  have mr4_4 : (w3.alloc (.cells #[.slice A2 d.length c2, .int .i64 0, .bool true, .int .i64 0, .bool true, .int .i64 0] 24)).cell? ⟨w.heap.size, 4, none⟩ = some (.bool false) := cell_of_row _ _ 4 _ _ _ rr
  have mr4_5 : (w3.alloc (.cells #[.slice A2 d.length c2, .int .i64 0, .bool true, .int .i64 0, .bool true, .int .i64 0] 24)).cell? ⟨w.heap.size, 5, none⟩ = some (.int .i64 0) := cell_of_row _ _ 5 _ _ _ rr
  clear hn4
  have s4 : w3.heap.size < (w3.alloc (.cells #[.slice A2 d.length c2, .int .i64 0, .bool true, .int .i64 0, .bool true, .int .i64 0] 24)).heap.size := Nat.lt_of_lt_of_eq (Nat.lt_succ_self _) (World.size_alloc _ _).symm
  have ra : (w3.alloc (.cells #[.slice A2 d.length c2, .int .i64 0, .bool true, .int .i64 0, .bool true, .int .i64 0] 24)).heap[w3.heap.size]? = some (.cells #[.slice A2 d.length c2, .int .i64 0, .bool true, .int .i64 0, .bool true, .int .i64 0] 24 (0, 0)) := by have q := heap_alloc_new w3 (.cells #[.slice A2 d.length c2, .int .i64 0, .bool true, .int .i64 0, .bool true, .int .i64 0] 24); (try simp only [World.size_alloc, World.size_setCell] at q); exact q
  have ma1_0 : (w3.alloc (.cells #[.slice A2 d.length c2, .int .i64 0, .bool true, .int .i64 0, .bool true, .int .i64 0] 24)).cell? ⟨w3.heap.size, 0, none⟩ = some (.slice A2 d.length c2) := cell_of_row _ _ 0 _ _ _ ra
  have ma1_1 : (w3.alloc (.cells #[.slice A2 d.length c2, .int .i64 0, .bool true, .int .i64 0, .bool true, .int .i64 0] 24)).cell? ⟨w3.heap.size, 1, none⟩ = some (.int .i64 0) := cell_of_row _ _ 1 _ _ _ ra
  have ma1_2 : (w3.alloc (.cells #[.slice A2 d.length c2, .int .i64 0, .bool true, .int .i64 0, .bool true, .int .i64 0] 24)).cell? ⟨w3.heap.size, 2, none⟩ = some (.bool true) := cell_of_row _ _ 2 _ _ _ ra
  have ma1_3 : (w3.alloc (.cells #[.slice A2 d.length c2, .int .i64 0, .bool true, .int .i64 0, .bool true, .int .i64 0] 24)).cell? ⟨w3.heap.size, 3, none⟩ = some (.int .i64 0) := cell_of_row _ _ 3 _ _ _ ra
  have ma1_4 : (w3.alloc (.cells #[.slice A2 d.length c2, .int .i64 0, .bool true, .int .i64 0, .bool true, .int .i64 0] 24)).cell? ⟨w3.heap.size, 4, none⟩ = some (.bool true) := cell_of_row _ _ 4 _ _ _ ra
  have ma1_5 : (w3.alloc (.cells #[.slice A2 d.length c2, .int .i64 0, .bool true, .int .i64 0, .bool true, .int .i64 0] 24)).cell? ⟨w3.heap.size, 5, none⟩ = some (.int .i64 0) := cell_of_row _ _ 5 _ _ _ ra
  go_wp2_with fail
  clear mr3_0 mr3_1 mr3_2 mr3_3 mr3_4 mr3_5
  generalize (w3.alloc (.cells #[.slice A2 d.length c2, .int .i64 0, .bool true, .int .i64 0, .bool true, .int .i64 0] 24)) = u4 at *
  refine (pick_any (R) ((p + 1)) (14) _ hr (by omega)).mono ?_
  rintro e w5 ⟨j0, rfl, h5, q5, f5, e5⟩
  have s5 := f5.size
  clear hr
  have hr := q5
  clear q5
  clear mr4_0 mr4_1 mr4_2 mr4_3 mr4_4 mr4_5
  clear ma1_0 ma1_1 ma1_2 ma1_3 ma1_4 ma1_5
  replace rr := rowFr rr f5 (by omega)
  replace ra := rowFr ra f5 (by omega)
  replace o2 := o2.fr f5 (by omega)
  replace hF := hF.trans f5
  have mr5_0 : w5.cell? ⟨w.heap.size, 0, none⟩ = some (.slice none 0 0) := cell_of_row _ _ 0 _ _ _ rr
  have mr5_1 : w5.cell? ⟨w.heap.size, 1, none⟩ = some (.int .i64 0) := cell_of_row _ _ 1 _ _ _ rr
  have mr5_2 : w5.cell? ⟨w.heap.size, 2, none⟩ = some (.bool false) := cell_of_row _ _ 2 _ _ _ rr
  have mr5_3 : w5.cell? ⟨w.heap.size, 3, none⟩ = some (.int .i64 0) := cell_of_row _ _ 3 _ _ _ rr
  have mr5_4 : w5.cell? ⟨w.heap.size, 4, none⟩ = some (.bool false) := cell_of_row _ _ 4 _ _ _ rr
  have mr5_5 : w5.cell? ⟨w.heap.size, 5, none⟩ = some (.int .i64 0) := cell_of_row _ _ 5 _ _ _ rr
  have ma2_0 : w5.cell? ⟨w3.heap.size, 0, none⟩ = some (.slice A2 d.length c2) := cell_of_row _ _ 0 _ _ _ ra
  have ma2_1 : w5.cell? ⟨w3.heap.size, 1, none⟩ = some (.int .i64 0) := cell_of_row _ _ 1 _ _ _ ra
  have ma2_2 : w5.cell? ⟨w3.heap.size, 2, none⟩ = some (.bool true) := cell_of_row _ _ 2 _ _ _ ra
  have ma2_3 : w5.cell? ⟨w3.heap.size, 3, none⟩ = some (.int .i64 0) := cell_of_row _ _ 3 _ _ _ ra
  have ma2_4 : w5.cell? ⟨w3.heap.size, 4, none⟩ = some (.bool true) := cell_of_row _ _ 4 _ _ _ ra
  have ma2_5 : w5.cell? ⟨w3.heap.size, 5, none⟩ = some (.int .i64 0) := cell_of_row _ _ 5 _ _ _ ra
  clear f5
  obtain ⟨j00, j01⟩ : 0 ≤ j0 ∧ j0 < 14 := by omega
  clear h5 e5
  have hq0 := hr
  have hst : AtAns w w5 R p (w3.heap.size) j0 A2 c2 d 0 true 0 true 0 (((p + 1) + 1)) _ _ := ⟨rr, ra, o2, by omega, .inl (by omega), by omega, HV.out, by omega, hr, hF⟩
  clear mr5_0 mr5_1 mr5_2 mr5_3 mr5_4 mr5_5
  clear ma2_0 ma2_1 ma2_2 ma2_3 ma2_4 ma2_5
  clear rr ra o2 hr hF hq0 HV HW
  go_upto_region 3 with fail
  go_loopw [6] (fun i wr => ∃ (j : Int), (0 ≤ j ∧ j ≤ 14) ∧ i = .int .i64 j ∧ ∃ A c d ps pp tk tp pd q lo hi, AtAns w wr R p (w3.heap.size) j A c d ps pp tk tp pd q lo hi) (fun i _ => (intOf i).toNat)
  case atStart => exact ⟨j0, by omega, rfl, A2, c2, d, 0, true, 0, true, 0, _, _, _, hst⟩
  case round =>
    clear hst
    obtain ⟨j, ⟨hj0, hj1⟩, rfl, A, c, d, ps, pp, tk, tp, pd, q, lo, hi, st⟩ := hrel
    have rr := st.rr
    have ra := st.ra
    have o2 := st.o2
    have h_lo := st.lo_
    have h_off := st.off
    have h_hi := st.hi_
    have h_q := st.q_
    have hr := st.rd
    have hF := st.fr
    have HV := Lib.hid st.val
    obtain ⟨⟨v1, v2⟩, ⟨v3, v4⟩, ⟨v5, v6⟩⟩ := aval_bd _ _ _ _ _ _ st.val
    have h_G := rowLt ra
    have hcap := o2.cap
    clear st
    have mr6_0 : wr.cell? ⟨w.heap.size, 0, none⟩ = some (.slice none 0 0) := cell_of_row _ _ 0 _ _ _ rr
    have mr6_1 : wr.cell? ⟨w.heap.size, 1, none⟩ = some (.int .i64 0) := cell_of_row _ _ 1 _ _ _ rr
    have mr6_2 : wr.cell? ⟨w.heap.size, 2, none⟩ = some (.bool false) := cell_of_row _ _ 2 _ _ _ rr
    have mr6_3 : wr.cell? ⟨w.heap.size, 3, none⟩ = some (.int .i64 0) := cell_of_row _ _ 3 _ _ _ rr
    have mr6_4 : wr.cell? ⟨w.heap.size, 4, none⟩ = some (.bool false) := cell_of_row _ _ 4 _ _ _ rr
    have mr6_5 : wr.cell? ⟨w.heap.size, 5, none⟩ = some (.int .i64 0) := cell_of_row _ _ 5 _ _ _ rr
    have ma3_0 : wr.cell? ⟨w3.heap.size, 0, none⟩ = some (.slice A d.length c) := cell_of_row _ _ 0 _ _ _ ra
    have ma3_1 : wr.cell? ⟨w3.heap.size, 1, none⟩ = some (.int .i64 ps) := cell_of_row _ _ 1 _ _ _ ra
    have ma3_2 : wr.cell? ⟨w3.heap.size, 2, none⟩ = some (.bool pp) := cell_of_row _ _ 2 _ _ _ ra
    have ma3_3 : wr.cell? ⟨w3.heap.size, 3, none⟩ = some (.int .i64 tk) := cell_of_row _ _ 3 _ _ _ ra
    have ma3_4 : wr.cell? ⟨w3.heap.size, 4, none⟩ = some (.bool tp) := cell_of_row _ _ 4 _ _ _ ra
    have ma3_5 : wr.cell? ⟨w3.heap.size, 5, none⟩ = some (.int .i64 pd) := cell_of_row _ _ 5 _ _ _ ra
    by_cases hjj : 0 < j
    · go_wp2_with fail
      refine (pick_any (R) (q) (5) _ hr (by omega)).mono ?_
      rintro e w6 ⟨k5, rfl, h6, q6, f6, e6⟩
      have s6 := f6.size
      clear hr
      have hr := q6
      clear q6
      clear mr6_0 mr6_1 mr6_2 mr6_3 mr6_4 mr6_5
      clear ma3_0 ma3_1 ma3_2 ma3_3 ma3_4 ma3_5
      replace rr := rowFr rr f6 (by omega)
      replace ra := rowFr ra f6 (by omega)
      replace o2 := o2.fr f6 (by omega)
      replace hF := hF.trans f6
      have mr7_0 : w6.cell? ⟨w.heap.size, 0, none⟩ = some (.slice none 0 0) := cell_of_row _ _ 0 _ _ _ rr
      have mr7_1 : w6.cell? ⟨w.heap.size, 1, none⟩ = some (.int .i64 0) := cell_of_row _ _ 1 _ _ _ rr
      have mr7_2 : w6.cell? ⟨w.heap.size, 2, none⟩ = some (.bool false) := cell_of_row _ _ 2 _ _ _ rr
      have mr7_3 : w6.cell? ⟨w.heap.size, 3, none⟩ = some (.int .i64 0) := cell_of_row _ _ 3 _ _ _ rr
      have mr7_4 : w6.cell? ⟨w.heap.size, 4, none⟩ = some (.bool false) := cell_of_row _ _ 4 _ _ _ rr
      have mr7_5 : w6.cell? ⟨w.heap.size, 5, none⟩ = some (.int .i64 0) := cell_of_row _ _ 5 _ _ _ rr
      have ma4_0 : w6.cell? ⟨w3.heap.size, 0, none⟩ = some (.slice A d.length c) := cell_of_row _ _ 0 _ _ _ ra
      have ma4_1 : w6.cell? ⟨w3.heap.size, 1, none⟩ = some (.int .i64 ps) := cell_of_row _ _ 1 _ _ _ ra
      have ma4_2 : w6.cell? ⟨w3.heap.size, 2, none⟩ = some (.bool pp) := cell_of_row _ _ 2 _ _ _ ra
      have ma4_3 : w6.cell? ⟨w3.heap.size, 3, none⟩ = some (.int .i64 tk) := cell_of_row _ _ 3 _ _ _ ra
      have ma4_4 : w6.cell? ⟨w3.heap.size, 4, none⟩ = some (.bool tp) := cell_of_row _ _ 4 _ _ _ ra
      have ma4_5 : w6.cell? ⟨w3.heap.size, 5, none⟩ = some (.int .i64 pd) := cell_of_row _ _ 5 _ _ _ ra
      clear f6
      obtain ⟨k50, k51⟩ : 0 ≤ k5 ∧ k5 < 5 := by omega
      clear h6 e6
      by_cases hk3 : k5 < 3
      · go_wp2_with fail
        have hn7 : Below w6.heap.size w6 w6.drew := below_drewN (Below.refl _ _) 1
        have s7 : w6.heap.size ≤ w6.drew.heap.size := Nat.le_refl _
        clear mr7_0 mr7_1 mr7_2 mr7_3 mr7_4 mr7_5
        clear ma4_0 ma4_1 ma4_2 ma4_3 ma4_4 ma4_5
        replace rr := rowKeep rr hn7
        replace ra := rowKeep ra hn7
        replace o2 := o2.below hn7
        replace hr := hr.below hn7
        replace hF := fr_below hF hn7
        have mr8_0 : w6.drew.cell? ⟨w.heap.size, 0, none⟩ = some (.slice none 0 0) := cell_of_row _ _ 0 _ _ _ rr
        have mr8_1 : w6.drew.cell? ⟨w.heap.size, 1, none⟩ = some (.int .i64 0) := cell_of_row _ _ 1 _ _ _ rr
        have mr8_2 : w6.drew.cell? ⟨w.heap.size, 2, none⟩ = some (.bool false) := cell_of_row _ _ 2 _ _ _ rr
        have mr8_3 : w6.drew.cell? ⟨w.heap.size, 3, none⟩ = some (.int .i64 0) := cell_of_row _ _ 3 _ _ _ rr
        have mr8_4 : w6.drew.cell? ⟨w.heap.size, 4, none⟩ = some (.bool false) := cell_of_row _ _ 4 _ _ _ rr
        have mr8_5 : w6.drew.cell? ⟨w.heap.size, 5, none⟩ = some (.int .i64 0) := cell_of_row _ _ 5 _ _ _ rr
        have ma5_0 : w6.drew.cell? ⟨w3.heap.size, 0, none⟩ = some (.slice A d.length c) := cell_of_row _ _ 0 _ _ _ ra
        have ma5_1 : w6.drew.cell? ⟨w3.heap.size, 1, none⟩ = some (.int .i64 ps) := cell_of_row _ _ 1 _ _ _ ra
        have ma5_2 : w6.drew.cell? ⟨w3.heap.size, 2, none⟩ = some (.bool pp) := cell_of_row _ _ 2 _ _ _ ra
        have ma5_3 : w6.drew.cell? ⟨w3.heap.size, 3, none⟩ = some (.int .i64 tk) := cell_of_row _ _ 3 _ _ _ ra
        have ma5_4 : w6.drew.cell? ⟨w3.heap.size, 4, none⟩ = some (.bool tp) := cell_of_row _ _ 4 _ _ _ ra
        have ma5_5 : w6.drew.cell? ⟨w3.heap.size, 5, none⟩ = some (.int .i64 pd) := cell_of_row _ _ 5 _ _ _ ra
        clear hn7
        refine wp_region_noPanic ?_
        refine wp_region_held_drew (S := fun w' => True) (by kernel_rfl) trivial (fun hHeld => ?_)
        generalize w6.drew = u7 at *
        refine wpAnyH_take (i := 1) (v := ?_) rfl (by kernel_rfl) (by kernel_rfl) (by kernel_rfl) (fun _ _ _ h => h) (Or.inl ⟨by rfl, ?_⟩) (by assumption) ?_
        rotate_left
        · (intro wz hSw; (try dsimp only at hSw); go_simp; try with_reducible rfl)
        simp only [Act.put, List.getElem_toArray, List.getElem_cons_zero, List.getElem_cons_succ, List.setIfInBounds_toArray, List.set_cons_zero, List.set_cons_succ]
        refine wpAnyH_ready (rs := [0, 2]) (by kernel_rfl) (by simp) ?_
        refine AllReadyH.cons rfl (fun K hK => ?_) ?_
        · go_simp
          refine hK.out _ _ trivial (fun hHeld => ?_)
          clear hK K
          try simp only [Act.put, List.getElem_toArray, List.getElem_cons_zero, List.getElem_cons_succ, List.setIfInBounds_toArray, List.set_cons_zero, List.set_cons_succ]
          refine wpAnyH_ready (rs := [2]) (by kernel_rfl) (by simp) ?_
          refine AllReadyH.cons rfl (fun K hK => ?_) ?_
          · go_simp
            refine (pick_any (R) ((q + 1)) (100) _ hr (by omega)).mono ?_
            rintro e w8 ⟨v, rfl, h8, q8, f8, e8⟩
            have s8 := f8.size
            clear hr
            have hr := q8
            clear q8
            clear mr8_0 mr8_1 mr8_2 mr8_3 mr8_4 mr8_5
            clear ma5_0 ma5_1 ma5_2 ma5_3 ma5_4 ma5_5
            replace rr := rowFr rr f8 (by omega)
            replace ra := rowFr ra f8 (by omega)
            replace o2 := o2.fr f8 (by omega)
            replace hF := hF.trans f8
            have mr9_0 : w8.cell? ⟨w.heap.size, 0, none⟩ = some (.slice none 0 0) := cell_of_row _ _ 0 _ _ _ rr
            have mr9_1 : w8.cell? ⟨w.heap.size, 1, none⟩ = some (.int .i64 0) := cell_of_row _ _ 1 _ _ _ rr
            have mr9_2 : w8.cell? ⟨w.heap.size, 2, none⟩ = some (.bool false) := cell_of_row _ _ 2 _ _ _ rr
            have mr9_3 : w8.cell? ⟨w.heap.size, 3, none⟩ = some (.int .i64 0) := cell_of_row _ _ 3 _ _ _ rr
            have mr9_4 : w8.cell? ⟨w.heap.size, 4, none⟩ = some (.bool false) := cell_of_row _ _ 4 _ _ _ rr
            have mr9_5 : w8.cell? ⟨w.heap.size, 5, none⟩ = some (.int .i64 0) := cell_of_row _ _ 5 _ _ _ rr
            have ma6_0 : w8.cell? ⟨w3.heap.size, 0, none⟩ = some (.slice A d.length c) := cell_of_row _ _ 0 _ _ _ ra
            have ma6_1 : w8.cell? ⟨w3.heap.size, 1, none⟩ = some (.int .i64 ps) := cell_of_row _ _ 1 _ _ _ ra
            have ma6_2 : w8.cell? ⟨w3.heap.size, 2, none⟩ = some (.bool pp) := cell_of_row _ _ 2 _ _ _ ra
            have ma6_3 : w8.cell? ⟨w3.heap.size, 3, none⟩ = some (.int .i64 tk) := cell_of_row _ _ 3 _ _ _ ra
            have ma6_4 : w8.cell? ⟨w3.heap.size, 4, none⟩ = some (.bool tp) := cell_of_row _ _ 4 _ _ _ ra
            have ma6_5 : w8.cell? ⟨w3.heap.size, 5, none⟩ = some (.int .i64 pd) := cell_of_row _ _ 5 _ _ _ ra
            clear f8
            obtain ⟨v0, v1⟩ : 0 ≤ v ∧ v < 100 := by omega
            clear h8 e8
            refine hK.out _ _ trivial (fun hHeld => ?_)
            clear hK K
            try simp only [Act.put, List.getElem_toArray, List.getElem_cons_zero, List.getElem_cons_succ, List.setIfInBounds_toArray, List.set_cons_zero, List.set_cons_succ]
            refine wpAnyH_ready (rs := [3]) (by kernel_rfl) (by simp) ?_
            refine AllReadyH.cons rfl (fun K hK => ?_) ?_
            · obtain ⟨d2, ps2, pp2, tk2, tp2, pd2, h2, hv2⟩ := apost_some ⟨d, ps, pp, tk, tp, pd⟩ v HV.out
              have H2 := Lib.hid h2
              have HV2 := Lib.hid hv2
              clear h2 hv2
              go_simp
              refine (specPostAnswer_any A d.length c _ d ps pp tk tp pd v _ o2.sees (by omega)).mono ?_
              rintro e w9 ⟨A2, c2, rfl, o3, b9⟩
              have s9 := b9.size
              simp only [H2.out] at o3
              clear o2
              clear mr9_0 mr9_1 mr9_2 mr9_3 mr9_4 mr9_5
              clear ma6_0 ma6_1 ma6_2 ma6_3 ma6_4 ma6_5
              replace rr := rowKeep rr b9
              replace ra := rowKeep ra b9
              replace hr := hr.below b9
              replace hF := fr_below hF b9
              have mr10_0 : w9.cell? ⟨w.heap.size, 0, none⟩ = some (.slice none 0 0) := cell_of_row _ _ 0 _ _ _ rr
              have mr10_1 : w9.cell? ⟨w.heap.size, 1, none⟩ = some (.int .i64 0) := cell_of_row _ _ 1 _ _ _ rr
              have mr10_2 : w9.cell? ⟨w.heap.size, 2, none⟩ = some (.bool false) := cell_of_row _ _ 2 _ _ _ rr
              have mr10_3 : w9.cell? ⟨w.heap.size, 3, none⟩ = some (.int .i64 0) := cell_of_row _ _ 3 _ _ _ rr
              have mr10_4 : w9.cell? ⟨w.heap.size, 4, none⟩ = some (.bool false) := cell_of_row _ _ 4 _ _ _ rr
              have mr10_5 : w9.cell? ⟨w.heap.size, 5, none⟩ = some (.int .i64 0) := cell_of_row _ _ 5 _ _ _ rr
              have ma7_0 : w9.cell? ⟨w3.heap.size, 0, none⟩ = some (.slice A d.length c) := cell_of_row _ _ 0 _ _ _ ra
              have ma7_1 : w9.cell? ⟨w3.heap.size, 1, none⟩ = some (.int .i64 ps) := cell_of_row _ _ 1 _ _ _ ra
              have ma7_2 : w9.cell? ⟨w3.heap.size, 2, none⟩ = some (.bool pp) := cell_of_row _ _ 2 _ _ _ ra
              have ma7_3 : w9.cell? ⟨w3.heap.size, 3, none⟩ = some (.int .i64 tk) := cell_of_row _ _ 3 _ _ _ ra
              have ma7_4 : w9.cell? ⟨w3.heap.size, 4, none⟩ = some (.bool tp) := cell_of_row _ _ 4 _ _ _ ra
              have ma7_5 : w9.cell? ⟨w3.heap.size, 5, none⟩ = some (.int .i64 pd) := cell_of_row _ _ 5 _ _ _ ra
              clear b9
              simp only [postV, ansW, ansR, H2.out]
              refine hK.out _ _ trivial (fun hHeld => ?_)
              clear hK K
              try simp only [Act.put, List.getElem_toArray, List.getElem_cons_zero, List.getElem_cons_succ, List.setIfInBounds_toArray, List.set_cons_zero, List.set_cons_succ]
              refine wpAnyH_take (i := 4) (v := ?_) rfl (by kernel_rfl) (by kernel_rfl) (by kernel_rfl) (fun _ _ _ h => h) (Or.inl ⟨by rfl, ?_⟩) (by assumption) ?_
              rotate_left
              · (intro wz hSw; (try dsimp only at hSw); go_simp; try with_reducible rfl)
              simp only [Act.put, List.getElem_toArray, List.getElem_cons_zero, List.getElem_cons_succ, List.setIfInBounds_toArray, List.set_cons_zero, List.set_cons_succ]
              refine wpAnyH_take (i := 5) (v := ?_) rfl (by kernel_rfl) (by kernel_rfl) (by kernel_rfl) (fun _ _ _ h => h) (Or.inl ⟨by rfl, ?_⟩) (by assumption) ?_
              rotate_left
              · (intro wz hSw; (try dsimp only at hSw); go_simp; try with_reducible rfl)
              simp only [Act.put, List.getElem_toArray, List.getElem_cons_zero, List.getElem_cons_succ, List.setIfInBounds_toArray, List.set_cons_zero, List.set_cons_succ]
              refine wpAnyH_take (i := 6) (v := ?_) rfl (by kernel_rfl) (by kernel_rfl) (by kernel_rfl) (fun _ _ _ h => h) (Or.inl ⟨by rfl, ?_⟩) (by assumption) ?_
              rotate_left
              · (intro wz hSw; (try dsimp only at hSw); go_simp; try with_reducible rfl)
              simp only [Act.put, List.getElem_toArray, List.getElem_cons_zero, List.getElem_cons_succ, List.setIfInBounds_toArray, List.set_cons_zero, List.set_cons_succ]
              refine wpAnyH_ready (rs := [7]) (by kernel_rfl) (by simp) ?_
              refine AllReadyH.cons rfl (fun K hK => ?_) ?_
              · have z10_0 := frzRow ra 0
                have z10_1 := frzRow ra 1
                have z10_2 := frzRow ra 2
                have z10_3 := frzRow ra 3
                have z10_4 := frzRow ra 4
                have z10_5 := frzRow ra 5
                replace rr := rowSet (rowSet (rowSet (rowSet (rowSet (rowSet (rr) ⟨w3.heap.size, 0, none⟩ (.slice A2 d2.length c2) (by show _ ≠ w3.heap.size; omega)) ⟨w3.heap.size, 1, none⟩ (.int .i64 ps2) (by show _ ≠ w3.heap.size; omega)) ⟨w3.heap.size, 2, none⟩ (.bool pp2) (by show _ ≠ w3.heap.size; omega)) ⟨w3.heap.size, 3, none⟩ (.int .i64 tk2) (by show _ ≠ w3.heap.size; omega)) ⟨w3.heap.size, 4, none⟩ (.bool tp2) (by show _ ≠ w3.heap.size; omega)) ⟨w3.heap.size, 5, none⟩ (.int .i64 pd2) (by show _ ≠ w3.heap.size; omega)
                replace ra := put5 (put4 (put3 (put2 (put1 (put0 (ra) (.slice A2 d2.length c2)) (.int .i64 ps2)) (.bool pp2)) (.int .i64 tk2)) (.bool tp2)) (.int .i64 pd2)
                replace o3 := ((((((o3).setOther ⟨w3.heap.size, 0, none⟩ (.slice A2 d2.length c2) (by show w3.heap.size < _ ∨ _ ≤ w3.heap.size; omega)).setOther ⟨w3.heap.size, 1, none⟩ (.int .i64 ps2) (by show w3.heap.size < _ ∨ _ ≤ w3.heap.size; omega)).setOther ⟨w3.heap.size, 2, none⟩ (.bool pp2) (by show w3.heap.size < _ ∨ _ ≤ w3.heap.size; omega)).setOther ⟨w3.heap.size, 3, none⟩ (.int .i64 tk2) (by show w3.heap.size < _ ∨ _ ≤ w3.heap.size; omega)).setOther ⟨w3.heap.size, 4, none⟩ (.bool tp2) (by show w3.heap.size < _ ∨ _ ≤ w3.heap.size; omega)).setOther ⟨w3.heap.size, 5, none⟩ (.int .i64 pd2) (by show w3.heap.size < _ ∨ _ ≤ w3.heap.size; omega)
                replace hr := rd_setc (rd_setc (rd_setc (rd_setc (rd_setc (rd_setc (hr) ⟨w3.heap.size, 0, none⟩ (.slice A2 d2.length c2) (by show _ < w3.heap.size; omega)) ⟨w3.heap.size, 1, none⟩ (.int .i64 ps2) (by show _ < w3.heap.size; omega)) ⟨w3.heap.size, 2, none⟩ (.bool pp2) (by show _ < w3.heap.size; omega)) ⟨w3.heap.size, 3, none⟩ (.int .i64 tk2) (by show _ < w3.heap.size; omega)) ⟨w3.heap.size, 4, none⟩ (.bool tp2) (by show _ < w3.heap.size; omega)) ⟨w3.heap.size, 5, none⟩ (.int .i64 pd2) (by show _ < w3.heap.size; omega)
                replace hF := fr_setd (fr_setd (fr_setd (fr_setd (fr_setd (fr_setd (hF) (p := ⟨w3.heap.size, 0, none⟩) (by show _ ≤ w3.heap.size; omega) (.slice A2 d2.length c2)) (p := ⟨w3.heap.size, 1, none⟩) (by show _ ≤ w3.heap.size; omega) (.int .i64 ps2)) (p := ⟨w3.heap.size, 2, none⟩) (by show _ ≤ w3.heap.size; omega) (.bool pp2)) (p := ⟨w3.heap.size, 3, none⟩) (by show _ ≤ w3.heap.size; omega) (.int .i64 tk2)) (p := ⟨w3.heap.size, 4, none⟩) (by show _ ≤ w3.heap.size; omega) (.bool tp2)) (p := ⟨w3.heap.size, 5, none⟩) (by show _ ≤ w3.heap.size; omega) (.int .i64 pd2)
                have s10 : w9.heap.size ≤ ((((((w9.setCell ⟨w3.heap.size, 0, none⟩ (.slice A2 d2.length c2)).setCell ⟨w3.heap.size, 1, none⟩ (.int .i64 ps2)).setCell ⟨w3.heap.size, 2, none⟩ (.bool pp2)).setCell ⟨w3.heap.size, 3, none⟩ (.int .i64 tk2)).setCell ⟨w3.heap.size, 4, none⟩ (.bool tp2)).setCell ⟨w3.heap.size, 5, none⟩ (.int .i64 pd2)).heap.size := by simp only [World.size_setCell]; exact Nat.le_refl _
                have mr11_0 : ((((((w9.setCell ⟨w3.heap.size, 0, none⟩ (.slice A2 d2.length c2)).setCell ⟨w3.heap.size, 1, none⟩ (.int .i64 ps2)).setCell ⟨w3.heap.size, 2, none⟩ (.bool pp2)).setCell ⟨w3.heap.size, 3, none⟩ (.int .i64 tk2)).setCell ⟨w3.heap.size, 4, none⟩ (.bool tp2)).setCell ⟨w3.heap.size, 5, none⟩ (.int .i64 pd2)).cell? ⟨w.heap.size, 0, none⟩ = some (.slice none 0 0) := cell_of_row _ _ 0 _ _ _ rr
                have mr11_1 : ((((((w9.setCell ⟨w3.heap.size, 0, none⟩ (.slice A2 d2.length c2)).setCell ⟨w3.heap.size, 1, none⟩ (.int .i64 ps2)).setCell ⟨w3.heap.size, 2, none⟩ (.bool pp2)).setCell ⟨w3.heap.size, 3, none⟩ (.int .i64 tk2)).setCell ⟨w3.heap.size, 4, none⟩ (.bool tp2)).setCell ⟨w3.heap.size, 5, none⟩ (.int .i64 pd2)).cell? ⟨w.heap.size, 1, none⟩ = some (.int .i64 0) := cell_of_row _ _ 1 _ _ _ rr
                have mr11_2 : ((((((w9.setCell ⟨w3.heap.size, 0, none⟩ (.slice A2 d2.length c2)).setCell ⟨w3.heap.size, 1, none⟩ (.int .i64 ps2)).setCell ⟨w3.heap.size, 2, none⟩ (.bool pp2)).setCell ⟨w3.heap.size, 3, none⟩ (.int .i64 tk2)).setCell ⟨w3.heap.size, 4, none⟩ (.bool tp2)).setCell ⟨w3.heap.size, 5, none⟩ (.int .i64 pd2)).cell? ⟨w.heap.size, 2, none⟩ = some (.bool false) := cell_of_row _ _ 2 _ _ _ rr
                have mr11_3 : ((((((w9.setCell ⟨w3.heap.size, 0, none⟩ (.slice A2 d2.length c2)).setCell ⟨w3.heap.size, 1, none⟩ (.int .i64 ps2)).setCell ⟨w3.heap.size, 2, none⟩ (.bool pp2)).setCell ⟨w3.heap.size, 3, none⟩ (.int .i64 tk2)).setCell ⟨w3.heap.size, 4, none⟩ (.bool tp2)).setCell ⟨w3.heap.size, 5, none⟩ (.int .i64 pd2)).cell? ⟨w.heap.size, 3, none⟩ = some (.int .i64 0) := cell_of_row _ _ 3 _ _ _ rr
                have mr11_4 : ((((((w9.setCell ⟨w3.heap.size, 0, none⟩ (.slice A2 d2.length c2)).setCell ⟨w3.heap.size, 1, none⟩ (.int .i64 ps2)).setCell ⟨w3.heap.size, 2, none⟩ (.bool pp2)).setCell ⟨w3.heap.size, 3, none⟩ (.int .i64 tk2)).setCell ⟨w3.heap.size, 4, none⟩ (.bool tp2)).setCell ⟨w3.heap.size, 5, none⟩ (.int .i64 pd2)).cell? ⟨w.heap.size, 4, none⟩ = some (.bool false) := cell_of_row _ _ 4 _ _ _ rr
                have mr11_5 : ((((((w9.setCell ⟨w3.heap.size, 0, none⟩ (.slice A2 d2.length c2)).setCell ⟨w3.heap.size, 1, none⟩ (.int .i64 ps2)).setCell ⟨w3.heap.size, 2, none⟩ (.bool pp2)).setCell ⟨w3.heap.size, 3, none⟩ (.int .i64 tk2)).setCell ⟨w3.heap.size, 4, none⟩ (.bool tp2)).setCell ⟨w3.heap.size, 5, none⟩ (.int .i64 pd2)).cell? ⟨w.heap.size, 5, none⟩ = some (.int .i64 0) := cell_of_row _ _ 5 _ _ _ rr
                have ma8_0 : ((((((w9.setCell ⟨w3.heap.size, 0, none⟩ (.slice A2 d2.length c2)).setCell ⟨w3.heap.size, 1, none⟩ (.int .i64 ps2)).setCell ⟨w3.heap.size, 2, none⟩ (.bool pp2)).setCell ⟨w3.heap.size, 3, none⟩ (.int .i64 tk2)).setCell ⟨w3.heap.size, 4, none⟩ (.bool tp2)).setCell ⟨w3.heap.size, 5, none⟩ (.int .i64 pd2)).cell? ⟨w3.heap.size, 0, none⟩ = some (.slice A2 d2.length c2) := cell_of_row _ _ 0 _ _ _ ra
                have ma8_1 : ((((((w9.setCell ⟨w3.heap.size, 0, none⟩ (.slice A2 d2.length c2)).setCell ⟨w3.heap.size, 1, none⟩ (.int .i64 ps2)).setCell ⟨w3.heap.size, 2, none⟩ (.bool pp2)).setCell ⟨w3.heap.size, 3, none⟩ (.int .i64 tk2)).setCell ⟨w3.heap.size, 4, none⟩ (.bool tp2)).setCell ⟨w3.heap.size, 5, none⟩ (.int .i64 pd2)).cell? ⟨w3.heap.size, 1, none⟩ = some (.int .i64 ps2) := cell_of_row _ _ 1 _ _ _ ra
                have ma8_2 : ((((((w9.setCell ⟨w3.heap.size, 0, none⟩ (.slice A2 d2.length c2)).setCell ⟨w3.heap.size, 1, none⟩ (.int .i64 ps2)).setCell ⟨w3.heap.size, 2, none⟩ (.bool pp2)).setCell ⟨w3.heap.size, 3, none⟩ (.int .i64 tk2)).setCell ⟨w3.heap.size, 4, none⟩ (.bool tp2)).setCell ⟨w3.heap.size, 5, none⟩ (.int .i64 pd2)).cell? ⟨w3.heap.size, 2, none⟩ = some (.bool pp2) := cell_of_row _ _ 2 _ _ _ ra
                have ma8_3 : ((((((w9.setCell ⟨w3.heap.size, 0, none⟩ (.slice A2 d2.length c2)).setCell ⟨w3.heap.size, 1, none⟩ (.int .i64 ps2)).setCell ⟨w3.heap.size, 2, none⟩ (.bool pp2)).setCell ⟨w3.heap.size, 3, none⟩ (.int .i64 tk2)).setCell ⟨w3.heap.size, 4, none⟩ (.bool tp2)).setCell ⟨w3.heap.size, 5, none⟩ (.int .i64 pd2)).cell? ⟨w3.heap.size, 3, none⟩ = some (.int .i64 tk2) := cell_of_row _ _ 3 _ _ _ ra
                have ma8_4 : ((((((w9.setCell ⟨w3.heap.size, 0, none⟩ (.slice A2 d2.length c2)).setCell ⟨w3.heap.size, 1, none⟩ (.int .i64 ps2)).setCell ⟨w3.heap.size, 2, none⟩ (.bool pp2)).setCell ⟨w3.heap.size, 3, none⟩ (.int .i64 tk2)).setCell ⟨w3.heap.size, 4, none⟩ (.bool tp2)).setCell ⟨w3.heap.size, 5, none⟩ (.int .i64 pd2)).cell? ⟨w3.heap.size, 4, none⟩ = some (.bool tp2) := cell_of_row _ _ 4 _ _ _ ra
                have ma8_5 : ((((((w9.setCell ⟨w3.heap.size, 0, none⟩ (.slice A2 d2.length c2)).setCell ⟨w3.heap.size, 1, none⟩ (.int .i64 ps2)).setCell ⟨w3.heap.size, 2, none⟩ (.bool pp2)).setCell ⟨w3.heap.size, 3, none⟩ (.int .i64 tk2)).setCell ⟨w3.heap.size, 4, none⟩ (.bool tp2)).setCell ⟨w3.heap.size, 5, none⟩ (.int .i64 pd2)).cell? ⟨w3.heap.size, 5, none⟩ = some (.int .i64 pd2) := cell_of_row _ _ 5 _ _ _ ra
                go_simp
                refine hK.out _ _ trivial (fun hHeld => ?_)
                clear z10_0 z10_1 z10_2 z10_3 z10_4 z10_5 mr10_0 mr10_1 mr10_2 mr10_3 mr10_4 mr10_5 ma7_0 ma7_1 ma7_2 ma7_3 ma7_4 ma7_5
                generalize ((((((w9.setCell ⟨w3.heap.size, 0, none⟩ (.slice A2 d2.length c2)).setCell ⟨w3.heap.size, 1, none⟩ (.int .i64 ps2)).setCell ⟨w3.heap.size, 2, none⟩ (.bool pp2)).setCell ⟨w3.heap.size, 3, none⟩ (.int .i64 tk2)).setCell ⟨w3.heap.size, 4, none⟩ (.bool tp2)).setCell ⟨w3.heap.size, 5, none⟩ (.int .i64 pd2)) = u10 at *
                clear hK K
                try simp only [Act.put, List.getElem_toArray, List.getElem_cons_zero, List.getElem_cons_succ, List.setIfInBounds_toArray, List.set_cons_zero, List.set_cons_succ]
                refine wpAnyH_done (by kernel_rfl) ?_ _
                refine NoPanic.normal ?_
                have HS := Lib.hid (show AtAns w u10 R p (w3.heap.size) (j - 1) _ _ _ _ _ _ _ _ _ _ _ from ⟨rr, ra, o3, by omega, by omega, by omega, HV2.out, by omega, hr, hF⟩)
                have e9 : IntKind.i64.wrap (j - 1) = j - 1 := IntWalk.i64_in _ (by omega)
                go_wp2_with fail
                go_roundw
                case rel => exact ⟨j - 1, by omega, by go_num, _, _, _, _, _, _, _, _, _, _, _, HS.out⟩
                case measure => simp [intOf]; omega
              exact AllReadyH.nil
            exact AllReadyH.nil
          exact AllReadyH.nil
        refine AllReadyH.cons rfl (fun K hK => ?_) ?_
        · go_simp
          refine (pick_any (R) ((q + 1)) (100) _ hr (by omega)).mono ?_
          rintro e w8 ⟨v, rfl, h8, q8, f8, e8⟩
          have s8 := f8.size
          clear hr
          have hr := q8
          clear q8
          clear mr8_0 mr8_1 mr8_2 mr8_3 mr8_4 mr8_5
          clear ma5_0 ma5_1 ma5_2 ma5_3 ma5_4 ma5_5
          replace rr := rowFr rr f8 (by omega)
          replace ra := rowFr ra f8 (by omega)
          replace o2 := o2.fr f8 (by omega)
          replace hF := hF.trans f8
          have mr9_0 : w8.cell? ⟨w.heap.size, 0, none⟩ = some (.slice none 0 0) := cell_of_row _ _ 0 _ _ _ rr
          have mr9_1 : w8.cell? ⟨w.heap.size, 1, none⟩ = some (.int .i64 0) := cell_of_row _ _ 1 _ _ _ rr
          have mr9_2 : w8.cell? ⟨w.heap.size, 2, none⟩ = some (.bool false) := cell_of_row _ _ 2 _ _ _ rr
          have mr9_3 : w8.cell? ⟨w.heap.size, 3, none⟩ = some (.int .i64 0) := cell_of_row _ _ 3 _ _ _ rr
          have mr9_4 : w8.cell? ⟨w.heap.size, 4, none⟩ = some (.bool false) := cell_of_row _ _ 4 _ _ _ rr
          have mr9_5 : w8.cell? ⟨w.heap.size, 5, none⟩ = some (.int .i64 0) := cell_of_row _ _ 5 _ _ _ rr
          have ma6_0 : w8.cell? ⟨w3.heap.size, 0, none⟩ = some (.slice A d.length c) := cell_of_row _ _ 0 _ _ _ ra
          have ma6_1 : w8.cell? ⟨w3.heap.size, 1, none⟩ = some (.int .i64 ps) := cell_of_row _ _ 1 _ _ _ ra
          have ma6_2 : w8.cell? ⟨w3.heap.size, 2, none⟩ = some (.bool pp) := cell_of_row _ _ 2 _ _ _ ra
          have ma6_3 : w8.cell? ⟨w3.heap.size, 3, none⟩ = some (.int .i64 tk) := cell_of_row _ _ 3 _ _ _ ra
          have ma6_4 : w8.cell? ⟨w3.heap.size, 4, none⟩ = some (.bool tp) := cell_of_row _ _ 4 _ _ _ ra
          have ma6_5 : w8.cell? ⟨w3.heap.size, 5, none⟩ = some (.int .i64 pd) := cell_of_row _ _ 5 _ _ _ ra
          clear f8
          obtain ⟨v0, v1⟩ : 0 ≤ v ∧ v < 100 := by omega
          clear h8 e8
          refine hK.out _ _ trivial (fun hHeld => ?_)
          clear hK K
          try simp only [Act.put, List.getElem_toArray, List.getElem_cons_zero, List.getElem_cons_succ, List.setIfInBounds_toArray, List.set_cons_zero, List.set_cons_succ]
          refine wpAnyH_ready (rs := [0]) (by kernel_rfl) (by simp) ?_
          refine AllReadyH.cons rfl (fun K hK => ?_) ?_
          · go_simp
            refine hK.out _ _ trivial (fun hHeld => ?_)
            clear hK K
            try simp only [Act.put, List.getElem_toArray, List.getElem_cons_zero, List.getElem_cons_succ, List.setIfInBounds_toArray, List.set_cons_zero, List.set_cons_succ]
            refine wpAnyH_ready (rs := [3]) (by kernel_rfl) (by simp) ?_
            refine AllReadyH.cons rfl (fun K hK => ?_) ?_
            · obtain ⟨d2, ps2, pp2, tk2, tp2, pd2, h2, hv2⟩ := apost_some ⟨d, ps, pp, tk, tp, pd⟩ v HV.out
              have H2 := Lib.hid h2
              have HV2 := Lib.hid hv2
              clear h2 hv2
              go_simp
              refine (specPostAnswer_any A d.length c _ d ps pp tk tp pd v _ o2.sees (by omega)).mono ?_
              rintro e w9 ⟨A2, c2, rfl, o3, b9⟩
              have s9 := b9.size
              simp only [H2.out] at o3
              clear o2
              clear mr9_0 mr9_1 mr9_2 mr9_3 mr9_4 mr9_5
              clear ma6_0 ma6_1 ma6_2 ma6_3 ma6_4 ma6_5
              replace rr := rowKeep rr b9
              replace ra := rowKeep ra b9
              replace hr := hr.below b9
              replace hF := fr_below hF b9
              have mr10_0 : w9.cell? ⟨w.heap.size, 0, none⟩ = some (.slice none 0 0) := cell_of_row _ _ 0 _ _ _ rr
              have mr10_1 : w9.cell? ⟨w.heap.size, 1, none⟩ = some (.int .i64 0) := cell_of_row _ _ 1 _ _ _ rr
              have mr10_2 : w9.cell? ⟨w.heap.size, 2, none⟩ = some (.bool false) := cell_of_row _ _ 2 _ _ _ rr
              have mr10_3 : w9.cell? ⟨w.heap.size, 3, none⟩ = some (.int .i64 0) := cell_of_row _ _ 3 _ _ _ rr
              have mr10_4 : w9.cell? ⟨w.heap.size, 4, none⟩ = some (.bool false) := cell_of_row _ _ 4 _ _ _ rr
              have mr10_5 : w9.cell? ⟨w.heap.size, 5, none⟩ = some (.int .i64 0) := cell_of_row _ _ 5 _ _ _ rr
              have ma7_0 : w9.cell? ⟨w3.heap.size, 0, none⟩ = some (.slice A d.length c) := cell_of_row _ _ 0 _ _ _ ra
              have ma7_1 : w9.cell? ⟨w3.heap.size, 1, none⟩ = some (.int .i64 ps) := cell_of_row _ _ 1 _ _ _ ra
              have ma7_2 : w9.cell? ⟨w3.heap.size, 2, none⟩ = some (.bool pp) := cell_of_row _ _ 2 _ _ _ ra
              have ma7_3 : w9.cell? ⟨w3.heap.size, 3, none⟩ = some (.int .i64 tk) := cell_of_row _ _ 3 _ _ _ ra
              have ma7_4 : w9.cell? ⟨w3.heap.size, 4, none⟩ = some (.bool tp) := cell_of_row _ _ 4 _ _ _ ra
              have ma7_5 : w9.cell? ⟨w3.heap.size, 5, none⟩ = some (.int .i64 pd) := cell_of_row _ _ 5 _ _ _ ra
              clear b9
              simp only [postV, ansW, ansR, H2.out]
              refine hK.out _ _ trivial (fun hHeld => ?_)
              clear hK K
              try simp only [Act.put, List.getElem_toArray, List.getElem_cons_zero, List.getElem_cons_succ, List.setIfInBounds_toArray, List.set_cons_zero, List.set_cons_succ]
              refine wpAnyH_take (i := 4) (v := ?_) rfl (by kernel_rfl) (by kernel_rfl) (by kernel_rfl) (fun _ _ _ h => h) (Or.inl ⟨by rfl, ?_⟩) (by assumption) ?_
              rotate_left
              · (intro wz hSw; (try dsimp only at hSw); go_simp; try with_reducible rfl)
              simp only [Act.put, List.getElem_toArray, List.getElem_cons_zero, List.getElem_cons_succ, List.setIfInBounds_toArray, List.set_cons_zero, List.set_cons_succ]
              refine wpAnyH_take (i := 5) (v := ?_) rfl (by kernel_rfl) (by kernel_rfl) (by kernel_rfl) (fun _ _ _ h => h) (Or.inl ⟨by rfl, ?_⟩) (by assumption) ?_
              rotate_left
              · (intro wz hSw; (try dsimp only at hSw); go_simp; try with_reducible rfl)
              simp only [Act.put, List.getElem_toArray, List.getElem_cons_zero, List.getElem_cons_succ, List.setIfInBounds_toArray, List.set_cons_zero, List.set_cons_succ]
              refine wpAnyH_take (i := 6) (v := ?_) rfl (by kernel_rfl) (by kernel_rfl) (by kernel_rfl) (fun _ _ _ h => h) (Or.inl ⟨by rfl, ?_⟩) (by assumption) ?_
              rotate_left
              · (intro wz hSw; (try dsimp only at hSw); go_simp; try with_reducible rfl)
              simp only [Act.put, List.getElem_toArray, List.getElem_cons_zero, List.getElem_cons_succ, List.setIfInBounds_toArray, List.set_cons_zero, List.set_cons_succ]
              refine wpAnyH_ready (rs := [7]) (by kernel_rfl) (by simp) ?_
              refine AllReadyH.cons rfl (fun K hK => ?_) ?_
              · have z10_0 := frzRow ra 0
                have z10_1 := frzRow ra 1
                have z10_2 := frzRow ra 2
                have z10_3 := frzRow ra 3
                have z10_4 := frzRow ra 4
                have z10_5 := frzRow ra 5
                replace rr := rowSet (rowSet (rowSet (rowSet (rowSet (rowSet (rr) ⟨w3.heap.size, 0, none⟩ (.slice A2 d2.length c2) (by show _ ≠ w3.heap.size; omega)) ⟨w3.heap.size, 1, none⟩ (.int .i64 ps2) (by show _ ≠ w3.heap.size; omega)) ⟨w3.heap.size, 2, none⟩ (.bool pp2) (by show _ ≠ w3.heap.size; omega)) ⟨w3.heap.size, 3, none⟩ (.int .i64 tk2) (by show _ ≠ w3.heap.size; omega)) ⟨w3.heap.size, 4, none⟩ (.bool tp2) (by show _ ≠ w3.heap.size; omega)) ⟨w3.heap.size, 5, none⟩ (.int .i64 pd2) (by show _ ≠ w3.heap.size; omega)
                replace ra := put5 (put4 (put3 (put2 (put1 (put0 (ra) (.slice A2 d2.length c2)) (.int .i64 ps2)) (.bool pp2)) (.int .i64 tk2)) (.bool tp2)) (.int .i64 pd2)
                replace o3 := ((((((o3).setOther ⟨w3.heap.size, 0, none⟩ (.slice A2 d2.length c2) (by show w3.heap.size < _ ∨ _ ≤ w3.heap.size; omega)).setOther ⟨w3.heap.size, 1, none⟩ (.int .i64 ps2) (by show w3.heap.size < _ ∨ _ ≤ w3.heap.size; omega)).setOther ⟨w3.heap.size, 2, none⟩ (.bool pp2) (by show w3.heap.size < _ ∨ _ ≤ w3.heap.size; omega)).setOther ⟨w3.heap.size, 3, none⟩ (.int .i64 tk2) (by show w3.heap.size < _ ∨ _ ≤ w3.heap.size; omega)).setOther ⟨w3.heap.size, 4, none⟩ (.bool tp2) (by show w3.heap.size < _ ∨ _ ≤ w3.heap.size; omega)).setOther ⟨w3.heap.size, 5, none⟩ (.int .i64 pd2) (by show w3.heap.size < _ ∨ _ ≤ w3.heap.size; omega)
                replace hr := rd_setc (rd_setc (rd_setc (rd_setc (rd_setc (rd_setc (hr) ⟨w3.heap.size, 0, none⟩ (.slice A2 d2.length c2) (by show _ < w3.heap.size; omega)) ⟨w3.heap.size, 1, none⟩ (.int .i64 ps2) (by show _ < w3.heap.size; omega)) ⟨w3.heap.size, 2, none⟩ (.bool pp2) (by show _ < w3.heap.size; omega)) ⟨w3.heap.size, 3, none⟩ (.int .i64 tk2) (by show _ < w3.heap.size; omega)) ⟨w3.heap.size, 4, none⟩ (.bool tp2) (by show _ < w3.heap.size; omega)) ⟨w3.heap.size, 5, none⟩ (.int .i64 pd2) (by show _ < w3.heap.size; omega)
                replace hF := fr_setd (fr_setd (fr_setd (fr_setd (fr_setd (fr_setd (hF) (p := ⟨w3.heap.size, 0, none⟩) (by show _ ≤ w3.heap.size; omega) (.slice A2 d2.length c2)) (p := ⟨w3.heap.size, 1, none⟩) (by show _ ≤ w3.heap.size; omega) (.int .i64 ps2)) (p := ⟨w3.heap.size, 2, none⟩) (by show _ ≤ w3.heap.size; omega) (.bool pp2)) (p := ⟨w3.heap.size, 3, none⟩) (by show _ ≤ w3.heap.size; omega) (.int .i64 tk2)) (p := ⟨w3.heap.size, 4, none⟩) (by show _ ≤ w3.heap.size; omega) (.bool tp2)) (p := ⟨w3.heap.size, 5, none⟩) (by show _ ≤ w3.heap.size; omega) (.int .i64 pd2)
                have s10 : w9.heap.size ≤ ((((((w9.setCell ⟨w3.heap.size, 0, none⟩ (.slice A2 d2.length c2)).setCell ⟨w3.heap.size, 1, none⟩ (.int .i64 ps2)).setCell ⟨w3.heap.size, 2, none⟩ (.bool pp2)).setCell ⟨w3.heap.size, 3, none⟩ (.int .i64 tk2)).setCell ⟨w3.heap.size, 4, none⟩ (.bool tp2)).setCell ⟨w3.heap.size, 5, none⟩ (.int .i64 pd2)).heap.size := by simp only [World.size_setCell]; exact Nat.le_refl _
                have mr11_0 : ((((((w9.setCell ⟨w3.heap.size, 0, none⟩ (.slice A2 d2.length c2)).setCell ⟨w3.heap.size, 1, none⟩ (.int .i64 ps2)).setCell ⟨w3.heap.size, 2, none⟩ (.bool pp2)).setCell ⟨w3.heap.size, 3, none⟩ (.int .i64 tk2)).setCell ⟨w3.heap.size, 4, none⟩ (.bool tp2)).setCell ⟨w3.heap.size, 5, none⟩ (.int .i64 pd2)).cell? ⟨w.heap.size, 0, none⟩ = some (.slice none 0 0) := cell_of_row _ _ 0 _ _ _ rr
                have mr11_1 : ((((((w9.setCell ⟨w3.heap.size, 0, none⟩ (.slice A2 d2.length c2)).setCell ⟨w3.heap.size, 1, none⟩ (.int .i64 ps2)).setCell ⟨w3.heap.size, 2, none⟩ (.bool pp2)).setCell ⟨w3.heap.size, 3, none⟩ (.int .i64 tk2)).setCell ⟨w3.heap.size, 4, none⟩ (.bool tp2)).setCell ⟨w3.heap.size, 5, none⟩ (.int .i64 pd2)).cell? ⟨w.heap.size, 1, none⟩ = some (.int .i64 0) := cell_of_row _ _ 1 _ _ _ rr
                have mr11_2 : ((((((w9.setCell ⟨w3.heap.size, 0, none⟩ (.slice A2 d2.length c2)).setCell ⟨w3.heap.size, 1, none⟩ (.int .i64 ps2)).setCell ⟨w3.heap.size, 2, none⟩ (.bool pp2)).setCell ⟨w3.heap.size, 3, none⟩ (.int .i64 tk2)).setCell ⟨w3.heap.size, 4, none⟩ (.bool tp2)).setCell ⟨w3.heap.size, 5, none⟩ (.int .i64 pd2)).cell? ⟨w.heap.size, 2, none⟩ = some (.bool false) := cell_of_row _ _ 2 _ _ _ rr
                have mr11_3 : ((((((w9.setCell ⟨w3.heap.size, 0, none⟩ (.slice A2 d2.length c2)).setCell ⟨w3.heap.size, 1, none⟩ (.int .i64 ps2)).setCell ⟨w3.heap.size, 2, none⟩ (.bool pp2)).setCell ⟨w3.heap.size, 3, none⟩ (.int .i64 tk2)).setCell ⟨w3.heap.size, 4, none⟩ (.bool tp2)).setCell ⟨w3.heap.size, 5, none⟩ (.int .i64 pd2)).cell? ⟨w.heap.size, 3, none⟩ = some (.int .i64 0) := cell_of_row _ _ 3 _ _ _ rr
                have mr11_4 : ((((((w9.setCell ⟨w3.heap.size, 0, none⟩ (.slice A2 d2.length c2)).setCell ⟨w3.heap.size, 1, none⟩ (.int .i64 ps2)).setCell ⟨w3.heap.size, 2, none⟩ (.bool pp2)).setCell ⟨w3.heap.size, 3, none⟩ (.int .i64 tk2)).setCell ⟨w3.heap.size, 4, none⟩ (.bool tp2)).setCell ⟨w3.heap.size, 5, none⟩ (.int .i64 pd2)).cell? ⟨w.heap.size, 4, none⟩ = some (.bool false) := cell_of_row _ _ 4 _ _ _ rr
                have mr11_5 : ((((((w9.setCell ⟨w3.heap.size, 0, none⟩ (.slice A2 d2.length c2)).setCell ⟨w3.heap.size, 1, none⟩ (.int .i64 ps2)).setCell ⟨w3.heap.size, 2, none⟩ (.bool pp2)).setCell ⟨w3.heap.size, 3, none⟩ (.int .i64 tk2)).setCell ⟨w3.heap.size, 4, none⟩ (.bool tp2)).setCell ⟨w3.heap.size, 5, none⟩ (.int .i64 pd2)).cell? ⟨w.heap.size, 5, none⟩ = some (.int .i64 0) := cell_of_row _ _ 5 _ _ _ rr
                have ma8_0 : ((((((w9.setCell ⟨w3.heap.size, 0, none⟩ (.slice A2 d2.length c2)).setCell ⟨w3.heap.size, 1, none⟩ (.int .i64 ps2)).setCell ⟨w3.heap.size, 2, none⟩ (.bool pp2)).setCell ⟨w3.heap.size, 3, none⟩ (.int .i64 tk2)).setCell ⟨w3.heap.size, 4, none⟩ (.bool tp2)).setCell ⟨w3.heap.size, 5, none⟩ (.int .i64 pd2)).cell? ⟨w3.heap.size, 0, none⟩ = some (.slice A2 d2.length c2) := cell_of_row _ _ 0 _ _ _ ra
                have ma8_1 : ((((((w9.setCell ⟨w3.heap.size, 0, none⟩ (.slice A2 d2.length c2)).setCell ⟨w3.heap.size, 1, none⟩ (.int .i64 ps2)).setCell ⟨w3.heap.size, 2, none⟩ (.bool pp2)).setCell ⟨w3.heap.size, 3, none⟩ (.int .i64 tk2)).setCell ⟨w3.heap.size, 4, none⟩ (.bool tp2)).setCell ⟨w3.heap.size, 5, none⟩ (.int .i64 pd2)).cell? ⟨w3.heap.size, 1, none⟩ = some (.int .i64 ps2) := cell_of_row _ _ 1 _ _ _ ra
                have ma8_2 : ((((((w9.setCell ⟨w3.heap.size, 0, none⟩ (.slice A2 d2.length c2)).setCell ⟨w3.heap.size, 1, none⟩ (.int .i64 ps2)).setCell ⟨w3.heap.size, 2, none⟩ (.bool pp2)).setCell ⟨w3.heap.size, 3, none⟩ (.int .i64 tk2)).setCell ⟨w3.heap.size, 4, none⟩ (.bool tp2)).setCell ⟨w3.heap.size, 5, none⟩ (.int .i64 pd2)).cell? ⟨w3.heap.size, 2, none⟩ = some (.bool pp2) := cell_of_row _ _ 2 _ _ _ ra
                have ma8_3 : ((((((w9.setCell ⟨w3.heap.size, 0, none⟩ (.slice A2 d2.length c2)).setCell ⟨w3.heap.size, 1, none⟩ (.int .i64 ps2)).setCell ⟨w3.heap.size, 2, none⟩ (.bool pp2)).setCell ⟨w3.heap.size, 3, none⟩ (.int .i64 tk2)).setCell ⟨w3.heap.size, 4, none⟩ (.bool tp2)).setCell ⟨w3.heap.size, 5, none⟩ (.int .i64 pd2)).cell? ⟨w3.heap.size, 3, none⟩ = some (.int .i64 tk2) := cell_of_row _ _ 3 _ _ _ ra
                have ma8_4 : ((((((w9.setCell ⟨w3.heap.size, 0, none⟩ (.slice A2 d2.length c2)).setCell ⟨w3.heap.size, 1, none⟩ (.int .i64 ps2)).setCell ⟨w3.heap.size, 2, none⟩ (.bool pp2)).setCell ⟨w3.heap.size, 3, none⟩ (.int .i64 tk2)).setCell ⟨w3.heap.size, 4, none⟩ (.bool tp2)).setCell ⟨w3.heap.size, 5, none⟩ (.int .i64 pd2)).cell? ⟨w3.heap.size, 4, none⟩ = some (.bool tp2) := cell_of_row _ _ 4 _ _ _ ra
                have ma8_5 : ((((((w9.setCell ⟨w3.heap.size, 0, none⟩ (.slice A2 d2.length c2)).setCell ⟨w3.heap.size, 1, none⟩ (.int .i64 ps2)).setCell ⟨w3.heap.size, 2, none⟩ (.bool pp2)).setCell ⟨w3.heap.size, 3, none⟩ (.int .i64 tk2)).setCell ⟨w3.heap.size, 4, none⟩ (.bool tp2)).setCell ⟨w3.heap.size, 5, none⟩ (.int .i64 pd2)).cell? ⟨w3.heap.size, 5, none⟩ = some (.int .i64 pd2) := cell_of_row _ _ 5 _ _ _ ra
                go_simp
                refine hK.out _ _ trivial (fun hHeld => ?_)
                clear z10_0 z10_1 z10_2 z10_3 z10_4 z10_5 mr10_0 mr10_1 mr10_2 mr10_3 mr10_4 mr10_5 ma7_0 ma7_1 ma7_2 ma7_3 ma7_4 ma7_5
                generalize ((((((w9.setCell ⟨w3.heap.size, 0, none⟩ (.slice A2 d2.length c2)).setCell ⟨w3.heap.size, 1, none⟩ (.int .i64 ps2)).setCell ⟨w3.heap.size, 2, none⟩ (.bool pp2)).setCell ⟨w3.heap.size, 3, none⟩ (.int .i64 tk2)).setCell ⟨w3.heap.size, 4, none⟩ (.bool tp2)).setCell ⟨w3.heap.size, 5, none⟩ (.int .i64 pd2)) = u10 at *
                clear hK K
                try simp only [Act.put, List.getElem_toArray, List.getElem_cons_zero, List.getElem_cons_succ, List.setIfInBounds_toArray, List.set_cons_zero, List.set_cons_succ]
                refine wpAnyH_done (by kernel_rfl) ?_ _
                refine NoPanic.normal ?_
                have HS := Lib.hid (show AtAns w u10 R p (w3.heap.size) (j - 1) _ _ _ _ _ _ _ _ _ _ _ from ⟨rr, ra, o3, by omega, by omega, by omega, HV2.out, by omega, hr, hF⟩)
                have e9 : IntKind.i64.wrap (j - 1) = j - 1 := IntWalk.i64_in _ (by omega)
                go_wp2_with fail
                go_roundw
                case rel => exact ⟨j - 1, by omega, by go_num, _, _, _, _, _, _, _, _, _, _, _, HS.out⟩
                case measure => simp [intOf]; omega
              exact AllReadyH.nil
            exact AllReadyH.nil
          exact AllReadyH.nil
        exact AllReadyH.nil
      · obtain ⟨d2, ps2, pp2, tk2, tp2, pd2, h2, hv2⟩ := atake_some ⟨d, ps, pp, tk, tp, pd⟩ HV.out
        have H2 := Lib.hid h2
        have HV2 := Lib.hid hv2
        clear h2 hv2
        go_wp2_with fail
        refine (specTakeAnswer_any A d.length c _ d ps pp tk tp pd _ o2.sees (by omega)).mono ?_
        rintro e w7 ⟨A2, c2, rfl, o3, b7⟩
        have s7 := b7.size
        simp only [H2.out] at o3
        clear o2
        clear mr7_0 mr7_1 mr7_2 mr7_3 mr7_4 mr7_5
        clear ma4_0 ma4_1 ma4_2 ma4_3 ma4_4 ma4_5
        replace rr := rowKeep rr b7
        replace ra := rowKeep ra b7
        replace hr := hr.below b7
        replace hF := fr_below hF b7
        have mr8_0 : w7.cell? ⟨w.heap.size, 0, none⟩ = some (.slice none 0 0) := cell_of_row _ _ 0 _ _ _ rr
        have mr8_1 : w7.cell? ⟨w.heap.size, 1, none⟩ = some (.int .i64 0) := cell_of_row _ _ 1 _ _ _ rr
        have mr8_2 : w7.cell? ⟨w.heap.size, 2, none⟩ = some (.bool false) := cell_of_row _ _ 2 _ _ _ rr
        have mr8_3 : w7.cell? ⟨w.heap.size, 3, none⟩ = some (.int .i64 0) := cell_of_row _ _ 3 _ _ _ rr
        have mr8_4 : w7.cell? ⟨w.heap.size, 4, none⟩ = some (.bool false) := cell_of_row _ _ 4 _ _ _ rr
        have mr8_5 : w7.cell? ⟨w.heap.size, 5, none⟩ = some (.int .i64 0) := cell_of_row _ _ 5 _ _ _ rr
        have ma5_0 : w7.cell? ⟨w3.heap.size, 0, none⟩ = some (.slice A d.length c) := cell_of_row _ _ 0 _ _ _ ra
        have ma5_1 : w7.cell? ⟨w3.heap.size, 1, none⟩ = some (.int .i64 ps) := cell_of_row _ _ 1 _ _ _ ra
        have ma5_2 : w7.cell? ⟨w3.heap.size, 2, none⟩ = some (.bool pp) := cell_of_row _ _ 2 _ _ _ ra
        have ma5_3 : w7.cell? ⟨w3.heap.size, 3, none⟩ = some (.int .i64 tk) := cell_of_row _ _ 3 _ _ _ ra
        have ma5_4 : w7.cell? ⟨w3.heap.size, 4, none⟩ = some (.bool tp) := cell_of_row _ _ 4 _ _ _ ra
        have ma5_5 : w7.cell? ⟨w3.heap.size, 5, none⟩ = some (.int .i64 pd) := cell_of_row _ _ 5 _ _ _ ra
        clear b7
        simp only [takeV, ansW, ansR, H2.out]
        have z8_0 := frzRow ra 0
        have z8_1 := frzRow ra 1
        have z8_2 := frzRow ra 2
        have z8_3 := frzRow ra 3
        have z8_4 := frzRow ra 4
        have z8_5 := frzRow ra 5
        replace rr := rowSet (rowSet (rowSet (rowSet (rowSet (rowSet (rr) ⟨w3.heap.size, 0, none⟩ (.slice A2 d2.length c2) (by show _ ≠ w3.heap.size; omega)) ⟨w3.heap.size, 1, none⟩ (.int .i64 ps2) (by show _ ≠ w3.heap.size; omega)) ⟨w3.heap.size, 2, none⟩ (.bool pp2) (by show _ ≠ w3.heap.size; omega)) ⟨w3.heap.size, 3, none⟩ (.int .i64 tk2) (by show _ ≠ w3.heap.size; omega)) ⟨w3.heap.size, 4, none⟩ (.bool tp2) (by show _ ≠ w3.heap.size; omega)) ⟨w3.heap.size, 5, none⟩ (.int .i64 pd2) (by show _ ≠ w3.heap.size; omega)
        replace ra := put5 (put4 (put3 (put2 (put1 (put0 (ra) (.slice A2 d2.length c2)) (.int .i64 ps2)) (.bool pp2)) (.int .i64 tk2)) (.bool tp2)) (.int .i64 pd2)
        replace o3 := ((((((o3).setOther ⟨w3.heap.size, 0, none⟩ (.slice A2 d2.length c2) (by show w3.heap.size < _ ∨ _ ≤ w3.heap.size; omega)).setOther ⟨w3.heap.size, 1, none⟩ (.int .i64 ps2) (by show w3.heap.size < _ ∨ _ ≤ w3.heap.size; omega)).setOther ⟨w3.heap.size, 2, none⟩ (.bool pp2) (by show w3.heap.size < _ ∨ _ ≤ w3.heap.size; omega)).setOther ⟨w3.heap.size, 3, none⟩ (.int .i64 tk2) (by show w3.heap.size < _ ∨ _ ≤ w3.heap.size; omega)).setOther ⟨w3.heap.size, 4, none⟩ (.bool tp2) (by show w3.heap.size < _ ∨ _ ≤ w3.heap.size; omega)).setOther ⟨w3.heap.size, 5, none⟩ (.int .i64 pd2) (by show w3.heap.size < _ ∨ _ ≤ w3.heap.size; omega)
        replace hr := rd_setc (rd_setc (rd_setc (rd_setc (rd_setc (rd_setc (hr) ⟨w3.heap.size, 0, none⟩ (.slice A2 d2.length c2) (by show _ < w3.heap.size; omega)) ⟨w3.heap.size, 1, none⟩ (.int .i64 ps2) (by show _ < w3.heap.size; omega)) ⟨w3.heap.size, 2, none⟩ (.bool pp2) (by show _ < w3.heap.size; omega)) ⟨w3.heap.size, 3, none⟩ (.int .i64 tk2) (by show _ < w3.heap.size; omega)) ⟨w3.heap.size, 4, none⟩ (.bool tp2) (by show _ < w3.heap.size; omega)) ⟨w3.heap.size, 5, none⟩ (.int .i64 pd2) (by show _ < w3.heap.size; omega)
        replace hF := fr_setd (fr_setd (fr_setd (fr_setd (fr_setd (fr_setd (hF) (p := ⟨w3.heap.size, 0, none⟩) (by show _ ≤ w3.heap.size; omega) (.slice A2 d2.length c2)) (p := ⟨w3.heap.size, 1, none⟩) (by show _ ≤ w3.heap.size; omega) (.int .i64 ps2)) (p := ⟨w3.heap.size, 2, none⟩) (by show _ ≤ w3.heap.size; omega) (.bool pp2)) (p := ⟨w3.heap.size, 3, none⟩) (by show _ ≤ w3.heap.size; omega) (.int .i64 tk2)) (p := ⟨w3.heap.size, 4, none⟩) (by show _ ≤ w3.heap.size; omega) (.bool tp2)) (p := ⟨w3.heap.size, 5, none⟩) (by show _ ≤ w3.heap.size; omega) (.int .i64 pd2)
        have s8 : w7.heap.size ≤ ((((((w7.setCell ⟨w3.heap.size, 0, none⟩ (.slice A2 d2.length c2)).setCell ⟨w3.heap.size, 1, none⟩ (.int .i64 ps2)).setCell ⟨w3.heap.size, 2, none⟩ (.bool pp2)).setCell ⟨w3.heap.size, 3, none⟩ (.int .i64 tk2)).setCell ⟨w3.heap.size, 4, none⟩ (.bool tp2)).setCell ⟨w3.heap.size, 5, none⟩ (.int .i64 pd2)).heap.size := by simp only [World.size_setCell]; exact Nat.le_refl _
        have mr9_0 : ((((((w7.setCell ⟨w3.heap.size, 0, none⟩ (.slice A2 d2.length c2)).setCell ⟨w3.heap.size, 1, none⟩ (.int .i64 ps2)).setCell ⟨w3.heap.size, 2, none⟩ (.bool pp2)).setCell ⟨w3.heap.size, 3, none⟩ (.int .i64 tk2)).setCell ⟨w3.heap.size, 4, none⟩ (.bool tp2)).setCell ⟨w3.heap.size, 5, none⟩ (.int .i64 pd2)).cell? ⟨w.heap.size, 0, none⟩ = some (.slice none 0 0) := cell_of_row _ _ 0 _ _ _ rr
        have mr9_1 : ((((((w7.setCell ⟨w3.heap.size, 0, none⟩ (.slice A2 d2.length c2)).setCell ⟨w3.heap.size, 1, none⟩ (.int .i64 ps2)).setCell ⟨w3.heap.size, 2, none⟩ (.bool pp2)).setCell ⟨w3.heap.size, 3, none⟩ (.int .i64 tk2)).setCell ⟨w3.heap.size, 4, none⟩ (.bool tp2)).setCell ⟨w3.heap.size, 5, none⟩ (.int .i64 pd2)).cell? ⟨w.heap.size, 1, none⟩ = some (.int .i64 0) := cell_of_row _ _ 1 _ _ _ rr
        have mr9_2 : ((((((w7.setCell ⟨w3.heap.size, 0, none⟩ (.slice A2 d2.length c2)).setCell ⟨w3.heap.size, 1, none⟩ (.int .i64 ps2)).setCell ⟨w3.heap.size, 2, none⟩ (.bool pp2)).setCell ⟨w3.heap.size, 3, none⟩ (.int .i64 tk2)).setCell ⟨w3.heap.size, 4, none⟩ (.bool tp2)).setCell ⟨w3.heap.size, 5, none⟩ (.int .i64 pd2)).cell? ⟨w.heap.size, 2, none⟩ = some (.bool false) := cell_of_row _ _ 2 _ _ _ rr
        have mr9_3 : ((((((w7.setCell ⟨w3.heap.size, 0, none⟩ (.slice A2 d2.length c2)).setCell ⟨w3.heap.size, 1, none⟩ (.int .i64 ps2)).setCell ⟨w3.heap.size, 2, none⟩ (.bool pp2)).setCell ⟨w3.heap.size, 3, none⟩ (.int .i64 tk2)).setCell ⟨w3.heap.size, 4, none⟩ (.bool tp2)).setCell ⟨w3.heap.size, 5, none⟩ (.int .i64 pd2)).cell? ⟨w.heap.size, 3, none⟩ = some (.int .i64 0) := cell_of_row _ _ 3 _ _ _ rr
        have mr9_4 : ((((((w7.setCell ⟨w3.heap.size, 0, none⟩ (.slice A2 d2.length c2)).setCell ⟨w3.heap.size, 1, none⟩ (.int .i64 ps2)).setCell ⟨w3.heap.size, 2, none⟩ (.bool pp2)).setCell ⟨w3.heap.size, 3, none⟩ (.int .i64 tk2)).setCell ⟨w3.heap.size, 4, none⟩ (.bool tp2)).setCell ⟨w3.heap.size, 5, none⟩ (.int .i64 pd2)).cell? ⟨w.heap.size, 4, none⟩ = some (.bool false) := cell_of_row _ _ 4 _ _ _ rr
        have mr9_5 : ((((((w7.setCell ⟨w3.heap.size, 0, none⟩ (.slice A2 d2.length c2)).setCell ⟨w3.heap.size, 1, none⟩ (.int .i64 ps2)).setCell ⟨w3.heap.size, 2, none⟩ (.bool pp2)).setCell ⟨w3.heap.size, 3, none⟩ (.int .i64 tk2)).setCell ⟨w3.heap.size, 4, none⟩ (.bool tp2)).setCell ⟨w3.heap.size, 5, none⟩ (.int .i64 pd2)).cell? ⟨w.heap.size, 5, none⟩ = some (.int .i64 0) := cell_of_row _ _ 5 _ _ _ rr
        have ma6_0 : ((((((w7.setCell ⟨w3.heap.size, 0, none⟩ (.slice A2 d2.length c2)).setCell ⟨w3.heap.size, 1, none⟩ (.int .i64 ps2)).setCell ⟨w3.heap.size, 2, none⟩ (.bool pp2)).setCell ⟨w3.heap.size, 3, none⟩ (.int .i64 tk2)).setCell ⟨w3.heap.size, 4, none⟩ (.bool tp2)).setCell ⟨w3.heap.size, 5, none⟩ (.int .i64 pd2)).cell? ⟨w3.heap.size, 0, none⟩ = some (.slice A2 d2.length c2) := cell_of_row _ _ 0 _ _ _ ra
        have ma6_1 : ((((((w7.setCell ⟨w3.heap.size, 0, none⟩ (.slice A2 d2.length c2)).setCell ⟨w3.heap.size, 1, none⟩ (.int .i64 ps2)).setCell ⟨w3.heap.size, 2, none⟩ (.bool pp2)).setCell ⟨w3.heap.size, 3, none⟩ (.int .i64 tk2)).setCell ⟨w3.heap.size, 4, none⟩ (.bool tp2)).setCell ⟨w3.heap.size, 5, none⟩ (.int .i64 pd2)).cell? ⟨w3.heap.size, 1, none⟩ = some (.int .i64 ps2) := cell_of_row _ _ 1 _ _ _ ra
        have ma6_2 : ((((((w7.setCell ⟨w3.heap.size, 0, none⟩ (.slice A2 d2.length c2)).setCell ⟨w3.heap.size, 1, none⟩ (.int .i64 ps2)).setCell ⟨w3.heap.size, 2, none⟩ (.bool pp2)).setCell ⟨w3.heap.size, 3, none⟩ (.int .i64 tk2)).setCell ⟨w3.heap.size, 4, none⟩ (.bool tp2)).setCell ⟨w3.heap.size, 5, none⟩ (.int .i64 pd2)).cell? ⟨w3.heap.size, 2, none⟩ = some (.bool pp2) := cell_of_row _ _ 2 _ _ _ ra
        have ma6_3 : ((((((w7.setCell ⟨w3.heap.size, 0, none⟩ (.slice A2 d2.length c2)).setCell ⟨w3.heap.size, 1, none⟩ (.int .i64 ps2)).setCell ⟨w3.heap.size, 2, none⟩ (.bool pp2)).setCell ⟨w3.heap.size, 3, none⟩ (.int .i64 tk2)).setCell ⟨w3.heap.size, 4, none⟩ (.bool tp2)).setCell ⟨w3.heap.size, 5, none⟩ (.int .i64 pd2)).cell? ⟨w3.heap.size, 3, none⟩ = some (.int .i64 tk2) := cell_of_row _ _ 3 _ _ _ ra
        have ma6_4 : ((((((w7.setCell ⟨w3.heap.size, 0, none⟩ (.slice A2 d2.length c2)).setCell ⟨w3.heap.size, 1, none⟩ (.int .i64 ps2)).setCell ⟨w3.heap.size, 2, none⟩ (.bool pp2)).setCell ⟨w3.heap.size, 3, none⟩ (.int .i64 tk2)).setCell ⟨w3.heap.size, 4, none⟩ (.bool tp2)).setCell ⟨w3.heap.size, 5, none⟩ (.int .i64 pd2)).cell? ⟨w3.heap.size, 4, none⟩ = some (.bool tp2) := cell_of_row _ _ 4 _ _ _ ra
        have ma6_5 : ((((((w7.setCell ⟨w3.heap.size, 0, none⟩ (.slice A2 d2.length c2)).setCell ⟨w3.heap.size, 1, none⟩ (.int .i64 ps2)).setCell ⟨w3.heap.size, 2, none⟩ (.bool pp2)).setCell ⟨w3.heap.size, 3, none⟩ (.int .i64 tk2)).setCell ⟨w3.heap.size, 4, none⟩ (.bool tp2)).setCell ⟨w3.heap.size, 5, none⟩ (.int .i64 pd2)).cell? ⟨w3.heap.size, 5, none⟩ = some (.int .i64 pd2) := cell_of_row _ _ 5 _ _ _ ra
        have HS := Lib.hid (show AtAns w ((((((w7.setCell ⟨w3.heap.size, 0, none⟩ (.slice A2 d2.length c2)).setCell ⟨w3.heap.size, 1, none⟩ (.int .i64 ps2)).setCell ⟨w3.heap.size, 2, none⟩ (.bool pp2)).setCell ⟨w3.heap.size, 3, none⟩ (.int .i64 tk2)).setCell ⟨w3.heap.size, 4, none⟩ (.bool tp2)).setCell ⟨w3.heap.size, 5, none⟩ (.int .i64 pd2)) R p (w3.heap.size) (j - 1) _ _ _ _ _ _ _ _ _ _ _ from ⟨rr, ra, o3, by omega, by omega, by omega, HV2.out, by omega, hr, hF⟩)
        have e9 : IntKind.i64.wrap (j - 1) = j - 1 := IntWalk.i64_in _ (by omega)
        go_wp2_with fail
        skip
        go_roundw
        case rel => exact ⟨j - 1, by omega, by go_num, _, _, _, _, _, _, _, _, _, _, _, HS.out⟩
        case measure => simp [intOf]; omega
    · go_wp2_with fail
      refine (odd_any (R) (q) (m) _ hr (by omega) (by omega) (by omega)).mono ?_
      rintro e w6 ⟨bb, q4, rfl, h6, q6, f6, e6⟩
      have s6 := f6.size
      clear hr
      have hr := q6
      clear q6
      clear mr6_0 mr6_1 mr6_2 mr6_3 mr6_4 mr6_5
      clear ma3_0 ma3_1 ma3_2 ma3_3 ma3_4 ma3_5
      replace rr := rowFr rr f6 (by omega)
      replace ra := rowFr ra f6 (by omega)
      replace o2 := o2.fr f6 (by omega)
      replace hF := hF.trans f6
      have mr7_0 : w6.cell? ⟨w.heap.size, 0, none⟩ = some (.slice none 0 0) := cell_of_row _ _ 0 _ _ _ rr
      have mr7_1 : w6.cell? ⟨w.heap.size, 1, none⟩ = some (.int .i64 0) := cell_of_row _ _ 1 _ _ _ rr
      have mr7_2 : w6.cell? ⟨w.heap.size, 2, none⟩ = some (.bool false) := cell_of_row _ _ 2 _ _ _ rr
      have mr7_3 : w6.cell? ⟨w.heap.size, 3, none⟩ = some (.int .i64 0) := cell_of_row _ _ 3 _ _ _ rr
      have mr7_4 : w6.cell? ⟨w.heap.size, 4, none⟩ = some (.bool false) := cell_of_row _ _ 4 _ _ _ rr
      have mr7_5 : w6.cell? ⟨w.heap.size, 5, none⟩ = some (.int .i64 0) := cell_of_row _ _ 5 _ _ _ rr
      have ma4_0 : w6.cell? ⟨w3.heap.size, 0, none⟩ = some (.slice A d.length c) := cell_of_row _ _ 0 _ _ _ ra
      have ma4_1 : w6.cell? ⟨w3.heap.size, 1, none⟩ = some (.int .i64 ps) := cell_of_row _ _ 1 _ _ _ ra
      have ma4_2 : w6.cell? ⟨w3.heap.size, 2, none⟩ = some (.bool pp) := cell_of_row _ _ 2 _ _ _ ra
      have ma4_3 : w6.cell? ⟨w3.heap.size, 3, none⟩ = some (.int .i64 tk) := cell_of_row _ _ 3 _ _ _ ra
      have ma4_4 : w6.cell? ⟨w3.heap.size, 4, none⟩ = some (.bool tp) := cell_of_row _ _ 4 _ _ _ ra
      have ma4_5 : w6.cell? ⟨w3.heap.size, 5, none⟩ = some (.int .i64 pd) := cell_of_row _ _ 5 _ _ _ ra
      clear f6
      have q40 := h6.1
      have q41 := h6.2
      clear h6 e6
      cases bb
      · have z7_0 := frzRow rr 0
        have z7_1 := frzRow rr 1
        have z7_2 := frzRow rr 2
        have z7_3 := frzRow rr 3
        have z7_4 := frzRow rr 4
        have z7_5 := frzRow rr 5
        replace ra := rowSet (rowSet (rowSet (rowSet (rowSet (rowSet (ra) ⟨w.heap.size, 0, none⟩ (.slice A d.length c) (by show _ ≠ w.heap.size; omega)) ⟨w.heap.size, 1, none⟩ (.int .i64 ps) (by show _ ≠ w.heap.size; omega)) ⟨w.heap.size, 2, none⟩ (.bool pp) (by show _ ≠ w.heap.size; omega)) ⟨w.heap.size, 3, none⟩ (.int .i64 tk) (by show _ ≠ w.heap.size; omega)) ⟨w.heap.size, 4, none⟩ (.bool tp) (by show _ ≠ w.heap.size; omega)) ⟨w.heap.size, 5, none⟩ (.int .i64 pd) (by show _ ≠ w.heap.size; omega)
        replace rr := put5 (put4 (put3 (put2 (put1 (put0 (rr) (.slice A d.length c)) (.int .i64 ps)) (.bool pp)) (.int .i64 tk)) (.bool tp)) (.int .i64 pd)
        replace o2 := ((((((o2).setOther ⟨w.heap.size, 0, none⟩ (.slice A d.length c) (by show w.heap.size < _ ∨ _ ≤ w.heap.size; omega)).setOther ⟨w.heap.size, 1, none⟩ (.int .i64 ps) (by show w.heap.size < _ ∨ _ ≤ w.heap.size; omega)).setOther ⟨w.heap.size, 2, none⟩ (.bool pp) (by show w.heap.size < _ ∨ _ ≤ w.heap.size; omega)).setOther ⟨w.heap.size, 3, none⟩ (.int .i64 tk) (by show w.heap.size < _ ∨ _ ≤ w.heap.size; omega)).setOther ⟨w.heap.size, 4, none⟩ (.bool tp) (by show w.heap.size < _ ∨ _ ≤ w.heap.size; omega)).setOther ⟨w.heap.size, 5, none⟩ (.int .i64 pd) (by show w.heap.size < _ ∨ _ ≤ w.heap.size; omega)
        replace hr := rd_setc (rd_setc (rd_setc (rd_setc (rd_setc (rd_setc (hr) ⟨w.heap.size, 0, none⟩ (.slice A d.length c) (by show _ < w.heap.size; omega)) ⟨w.heap.size, 1, none⟩ (.int .i64 ps) (by show _ < w.heap.size; omega)) ⟨w.heap.size, 2, none⟩ (.bool pp) (by show _ < w.heap.size; omega)) ⟨w.heap.size, 3, none⟩ (.int .i64 tk) (by show _ < w.heap.size; omega)) ⟨w.heap.size, 4, none⟩ (.bool tp) (by show _ < w.heap.size; omega)) ⟨w.heap.size, 5, none⟩ (.int .i64 pd) (by show _ < w.heap.size; omega)
        replace hF := fr_setd (fr_setd (fr_setd (fr_setd (fr_setd (fr_setd (hF) (p := ⟨w.heap.size, 0, none⟩) (by show _ ≤ w.heap.size; omega) (.slice A d.length c)) (p := ⟨w.heap.size, 1, none⟩) (by show _ ≤ w.heap.size; omega) (.int .i64 ps)) (p := ⟨w.heap.size, 2, none⟩) (by show _ ≤ w.heap.size; omega) (.bool pp)) (p := ⟨w.heap.size, 3, none⟩) (by show _ ≤ w.heap.size; omega) (.int .i64 tk)) (p := ⟨w.heap.size, 4, none⟩) (by show _ ≤ w.heap.size; omega) (.bool tp)) (p := ⟨w.heap.size, 5, none⟩) (by show _ ≤ w.heap.size; omega) (.int .i64 pd)
        have s7 : w6.heap.size ≤ ((((((w6.setCell ⟨w.heap.size, 0, none⟩ (.slice A d.length c)).setCell ⟨w.heap.size, 1, none⟩ (.int .i64 ps)).setCell ⟨w.heap.size, 2, none⟩ (.bool pp)).setCell ⟨w.heap.size, 3, none⟩ (.int .i64 tk)).setCell ⟨w.heap.size, 4, none⟩ (.bool tp)).setCell ⟨w.heap.size, 5, none⟩ (.int .i64 pd)).heap.size := by simp only [World.size_setCell]; exact Nat.le_refl _
        have mr8_0 : ((((((w6.setCell ⟨w.heap.size, 0, none⟩ (.slice A d.length c)).setCell ⟨w.heap.size, 1, none⟩ (.int .i64 ps)).setCell ⟨w.heap.size, 2, none⟩ (.bool pp)).setCell ⟨w.heap.size, 3, none⟩ (.int .i64 tk)).setCell ⟨w.heap.size, 4, none⟩ (.bool tp)).setCell ⟨w.heap.size, 5, none⟩ (.int .i64 pd)).cell? ⟨w.heap.size, 0, none⟩ = some (.slice A d.length c) := cell_of_row _ _ 0 _ _ _ rr
        have mr8_1 : ((((((w6.setCell ⟨w.heap.size, 0, none⟩ (.slice A d.length c)).setCell ⟨w.heap.size, 1, none⟩ (.int .i64 ps)).setCell ⟨w.heap.size, 2, none⟩ (.bool pp)).setCell ⟨w.heap.size, 3, none⟩ (.int .i64 tk)).setCell ⟨w.heap.size, 4, none⟩ (.bool tp)).setCell ⟨w.heap.size, 5, none⟩ (.int .i64 pd)).cell? ⟨w.heap.size, 1, none⟩ = some (.int .i64 ps) := cell_of_row _ _ 1 _ _ _ rr
        have mr8_2 : ((((((w6.setCell ⟨w.heap.size, 0, none⟩ (.slice A d.length c)).setCell ⟨w.heap.size, 1, none⟩ (.int .i64 ps)).setCell ⟨w.heap.size, 2, none⟩ (.bool pp)).setCell ⟨w.heap.size, 3, none⟩ (.int .i64 tk)).setCell ⟨w.heap.size, 4, none⟩ (.bool tp)).setCell ⟨w.heap.size, 5, none⟩ (.int .i64 pd)).cell? ⟨w.heap.size, 2, none⟩ = some (.bool pp) := cell_of_row _ _ 2 _ _ _ rr
        have mr8_3 : ((((((w6.setCell ⟨w.heap.size, 0, none⟩ (.slice A d.length c)).setCell ⟨w.heap.size, 1, none⟩ (.int .i64 ps)).setCell ⟨w.heap.size, 2, none⟩ (.bool pp)).setCell ⟨w.heap.size, 3, none⟩ (.int .i64 tk)).setCell ⟨w.heap.size, 4, none⟩ (.bool tp)).setCell ⟨w.heap.size, 5, none⟩ (.int .i64 pd)).cell? ⟨w.heap.size, 3, none⟩ = some (.int .i64 tk) := cell_of_row _ _ 3 _ _ _ rr
        have mr8_4 : ((((((w6.setCell ⟨w.heap.size, 0, none⟩ (.slice A d.length c)).setCell ⟨w.heap.size, 1, none⟩ (.int .i64 ps)).setCell ⟨w.heap.size, 2, none⟩ (.bool pp)).setCell ⟨w.heap.size, 3, none⟩ (.int .i64 tk)).setCell ⟨w.heap.size, 4, none⟩ (.bool tp)).setCell ⟨w.heap.size, 5, none⟩ (.int .i64 pd)).cell? ⟨w.heap.size, 4, none⟩ = some (.bool tp) := cell_of_row _ _ 4 _ _ _ rr
        have mr8_5 : ((((((w6.setCell ⟨w.heap.size, 0, none⟩ (.slice A d.length c)).setCell ⟨w.heap.size, 1, none⟩ (.int .i64 ps)).setCell ⟨w.heap.size, 2, none⟩ (.bool pp)).setCell ⟨w.heap.size, 3, none⟩ (.int .i64 tk)).setCell ⟨w.heap.size, 4, none⟩ (.bool tp)).setCell ⟨w.heap.size, 5, none⟩ (.int .i64 pd)).cell? ⟨w.heap.size, 5, none⟩ = some (.int .i64 pd) := cell_of_row _ _ 5 _ _ _ rr
        have ma5_0 : ((((((w6.setCell ⟨w.heap.size, 0, none⟩ (.slice A d.length c)).setCell ⟨w.heap.size, 1, none⟩ (.int .i64 ps)).setCell ⟨w.heap.size, 2, none⟩ (.bool pp)).setCell ⟨w.heap.size, 3, none⟩ (.int .i64 tk)).setCell ⟨w.heap.size, 4, none⟩ (.bool tp)).setCell ⟨w.heap.size, 5, none⟩ (.int .i64 pd)).cell? ⟨w3.heap.size, 0, none⟩ = some (.slice A d.length c) := cell_of_row _ _ 0 _ _ _ ra
        have ma5_1 : ((((((w6.setCell ⟨w.heap.size, 0, none⟩ (.slice A d.length c)).setCell ⟨w.heap.size, 1, none⟩ (.int .i64 ps)).setCell ⟨w.heap.size, 2, none⟩ (.bool pp)).setCell ⟨w.heap.size, 3, none⟩ (.int .i64 tk)).setCell ⟨w.heap.size, 4, none⟩ (.bool tp)).setCell ⟨w.heap.size, 5, none⟩ (.int .i64 pd)).cell? ⟨w3.heap.size, 1, none⟩ = some (.int .i64 ps) := cell_of_row _ _ 1 _ _ _ ra
        have ma5_2 : ((((((w6.setCell ⟨w.heap.size, 0, none⟩ (.slice A d.length c)).setCell ⟨w.heap.size, 1, none⟩ (.int .i64 ps)).setCell ⟨w.heap.size, 2, none⟩ (.bool pp)).setCell ⟨w.heap.size, 3, none⟩ (.int .i64 tk)).setCell ⟨w.heap.size, 4, none⟩ (.bool tp)).setCell ⟨w.heap.size, 5, none⟩ (.int .i64 pd)).cell? ⟨w3.heap.size, 2, none⟩ = some (.bool pp) := cell_of_row _ _ 2 _ _ _ ra
        have ma5_3 : ((((((w6.setCell ⟨w.heap.size, 0, none⟩ (.slice A d.length c)).setCell ⟨w.heap.size, 1, none⟩ (.int .i64 ps)).setCell ⟨w.heap.size, 2, none⟩ (.bool pp)).setCell ⟨w.heap.size, 3, none⟩ (.int .i64 tk)).setCell ⟨w.heap.size, 4, none⟩ (.bool tp)).setCell ⟨w.heap.size, 5, none⟩ (.int .i64 pd)).cell? ⟨w3.heap.size, 3, none⟩ = some (.int .i64 tk) := cell_of_row _ _ 3 _ _ _ ra
        have ma5_4 : ((((((w6.setCell ⟨w.heap.size, 0, none⟩ (.slice A d.length c)).setCell ⟨w.heap.size, 1, none⟩ (.int .i64 ps)).setCell ⟨w.heap.size, 2, none⟩ (.bool pp)).setCell ⟨w.heap.size, 3, none⟩ (.int .i64 tk)).setCell ⟨w.heap.size, 4, none⟩ (.bool tp)).setCell ⟨w.heap.size, 5, none⟩ (.int .i64 pd)).cell? ⟨w3.heap.size, 4, none⟩ = some (.bool tp) := cell_of_row _ _ 4 _ _ _ ra
        have ma5_5 : ((((((w6.setCell ⟨w.heap.size, 0, none⟩ (.slice A d.length c)).setCell ⟨w.heap.size, 1, none⟩ (.int .i64 ps)).setCell ⟨w.heap.size, 2, none⟩ (.bool pp)).setCell ⟨w.heap.size, 3, none⟩ (.int .i64 tk)).setCell ⟨w.heap.size, 4, none⟩ (.bool tp)).setCell ⟨w.heap.size, 5, none⟩ (.int .i64 pd)).cell? ⟨w3.heap.size, 5, none⟩ = some (.int .i64 pd) := cell_of_row _ _ 5 _ _ _ ra
        go_wp2_with fail
        refine bodyPost_ret (v := .agg #[.slice A d.length c, .int .i64 ps, .bool pp, .int .i64 tk, .bool tp, .int .i64 pd]) (by simp only [results, Try.results42]; simp [go_sem, mr8_0, mr8_1, mr8_2, mr8_3, mr8_4, mr8_5]) rfl ?_
        exact ⟨_, _, d, ps, pp, tk, tp, pd, q4, rfl, ⟨o2.wide (by omega) (by omega), by omega⟩, by omega, hr, hF⟩
      · go_wp2_with fail
        refine (pick_any (R) (q4) (5) _ hr (by omega)).mono ?_
        rintro e w7 ⟨kk, rfl, h7, q7, f7, e7⟩
        have s7 := f7.size
        clear hr
        have hr := q7
        clear q7
        clear mr7_0 mr7_1 mr7_2 mr7_3 mr7_4 mr7_5
        clear ma4_0 ma4_1 ma4_2 ma4_3 ma4_4 ma4_5
        replace rr := rowFr rr f7 (by omega)
        replace ra := rowFr ra f7 (by omega)
        replace o2 := o2.fr f7 (by omega)
        replace hF := hF.trans f7
        have mr8_0 : w7.cell? ⟨w.heap.size, 0, none⟩ = some (.slice none 0 0) := cell_of_row _ _ 0 _ _ _ rr
        have mr8_1 : w7.cell? ⟨w.heap.size, 1, none⟩ = some (.int .i64 0) := cell_of_row _ _ 1 _ _ _ rr
        have mr8_2 : w7.cell? ⟨w.heap.size, 2, none⟩ = some (.bool false) := cell_of_row _ _ 2 _ _ _ rr
        have mr8_3 : w7.cell? ⟨w.heap.size, 3, none⟩ = some (.int .i64 0) := cell_of_row _ _ 3 _ _ _ rr
        have mr8_4 : w7.cell? ⟨w.heap.size, 4, none⟩ = some (.bool false) := cell_of_row _ _ 4 _ _ _ rr
        have mr8_5 : w7.cell? ⟨w.heap.size, 5, none⟩ = some (.int .i64 0) := cell_of_row _ _ 5 _ _ _ rr
        have ma5_0 : w7.cell? ⟨w3.heap.size, 0, none⟩ = some (.slice A d.length c) := cell_of_row _ _ 0 _ _ _ ra
        have ma5_1 : w7.cell? ⟨w3.heap.size, 1, none⟩ = some (.int .i64 ps) := cell_of_row _ _ 1 _ _ _ ra
        have ma5_2 : w7.cell? ⟨w3.heap.size, 2, none⟩ = some (.bool pp) := cell_of_row _ _ 2 _ _ _ ra
        have ma5_3 : w7.cell? ⟨w3.heap.size, 3, none⟩ = some (.int .i64 tk) := cell_of_row _ _ 3 _ _ _ ra
        have ma5_4 : w7.cell? ⟨w3.heap.size, 4, none⟩ = some (.bool tp) := cell_of_row _ _ 4 _ _ _ ra
        have ma5_5 : w7.cell? ⟨w3.heap.size, 5, none⟩ = some (.int .i64 pd) := cell_of_row _ _ 5 _ _ _ ra
        clear f7
        obtain ⟨kk0, kk1⟩ : 0 ≤ kk ∧ kk < 5 := by omega
        clear h7 e7
        have hcs : kk = 0 ∨ kk = 1 ∨ kk = 2 ∨ kk = 3 ∨ kk = 4 := by omega
        clear kk0 kk1
        rcases hcs with rfl | rfl | rfl | rfl | rfl
        · have e2 : IntKind.i64.wrap ((d.length : Int) + 1) = (d.length : Int) + 1 := IntWalk.i64_in _ (by omega)
          go_upto_region 12 with fail
          have hn8 : Below w7.heap.size w7 w7.drew := below_drewN (Below.refl _ _) 1
          have s8 : w7.heap.size ≤ w7.drew.heap.size := Nat.le_refl _
          clear mr8_0 mr8_1 mr8_2 mr8_3 mr8_4 mr8_5
          clear ma5_0 ma5_1 ma5_2 ma5_3 ma5_4 ma5_5
          replace rr := rowKeep rr hn8
          replace ra := rowKeep ra hn8
          replace o2 := o2.below hn8
          replace hr := hr.below hn8
          replace hF := fr_below hF hn8
          have mr9_0 : w7.drew.cell? ⟨w.heap.size, 0, none⟩ = some (.slice none 0 0) := cell_of_row _ _ 0 _ _ _ rr
          have mr9_1 : w7.drew.cell? ⟨w.heap.size, 1, none⟩ = some (.int .i64 0) := cell_of_row _ _ 1 _ _ _ rr
          have mr9_2 : w7.drew.cell? ⟨w.heap.size, 2, none⟩ = some (.bool false) := cell_of_row _ _ 2 _ _ _ rr
          have mr9_3 : w7.drew.cell? ⟨w.heap.size, 3, none⟩ = some (.int .i64 0) := cell_of_row _ _ 3 _ _ _ rr
          have mr9_4 : w7.drew.cell? ⟨w.heap.size, 4, none⟩ = some (.bool false) := cell_of_row _ _ 4 _ _ _ rr
          have mr9_5 : w7.drew.cell? ⟨w.heap.size, 5, none⟩ = some (.int .i64 0) := cell_of_row _ _ 5 _ _ _ rr
          have ma6_0 : w7.drew.cell? ⟨w3.heap.size, 0, none⟩ = some (.slice A d.length c) := cell_of_row _ _ 0 _ _ _ ra
          have ma6_1 : w7.drew.cell? ⟨w3.heap.size, 1, none⟩ = some (.int .i64 ps) := cell_of_row _ _ 1 _ _ _ ra
          have ma6_2 : w7.drew.cell? ⟨w3.heap.size, 2, none⟩ = some (.bool pp) := cell_of_row _ _ 2 _ _ _ ra
          have ma6_3 : w7.drew.cell? ⟨w3.heap.size, 3, none⟩ = some (.int .i64 tk) := cell_of_row _ _ 3 _ _ _ ra
          have ma6_4 : w7.drew.cell? ⟨w3.heap.size, 4, none⟩ = some (.bool tp) := cell_of_row _ _ 4 _ _ _ ra
          have ma6_5 : w7.drew.cell? ⟨w3.heap.size, 5, none⟩ = some (.int .i64 pd) := cell_of_row _ _ 5 _ _ _ ra
          clear hn8
          refine wp_region_noPanic ?_
          refine wp_region_held_drew (S := fun w' => True) (by kernel_rfl) trivial (fun hHeld => ?_)
          generalize w7.drew = u8 at *
          refine wpAnyH_take (i := 0) (v := ?_) rfl (by kernel_rfl) (by kernel_rfl) (by kernel_rfl) (fun _ _ _ h => h) (Or.inl ⟨by rfl, ?_⟩) (by assumption) ?_
          rotate_left
          · (intro wz hSw; (try dsimp only at hSw); go_simp; try with_reducible rfl)
          simp only [Act.put, List.getElem_toArray, List.getElem_cons_zero, List.getElem_cons_succ, List.setIfInBounds_toArray, List.set_cons_zero, List.set_cons_succ]
          refine wpAnyH_take (i := 5) (v := ?_) rfl (by kernel_rfl) (by kernel_rfl) (by kernel_rfl) (fun _ _ _ h => h) (Or.inl ⟨by rfl, ?_⟩) (by assumption) ?_
          rotate_left
          · (intro wz hSw; (try dsimp only at hSw); go_simp; try with_reducible rfl)
          simp only [Act.put, List.getElem_toArray, List.getElem_cons_zero, List.getElem_cons_succ, List.setIfInBounds_toArray, List.set_cons_zero, List.set_cons_succ]
          refine wpAnyH_ready (rs := [1, 6]) (by kernel_rfl) (by simp) ?_
          refine AllReadyH.cons rfl (fun K hK => ?_) ?_
          · go_simp
            refine hK.out _ _ trivial (fun hHeld => ?_)
            clear hK K
            try simp only [Act.put, List.getElem_toArray, List.getElem_cons_zero, List.getElem_cons_succ, List.setIfInBounds_toArray, List.set_cons_zero, List.set_cons_succ]
            refine wpAnyH_take (i := 2) (v := ?_) rfl (by kernel_rfl) (by kernel_rfl) (by kernel_rfl) (fun _ _ _ h => h) (Or.inl ⟨by rfl, ?_⟩) (by assumption) ?_
            rotate_left
            · (intro wz hSw; (try dsimp only at hSw); go_simp; try with_reducible rfl)
            simp only [Act.put, List.getElem_toArray, List.getElem_cons_zero, List.getElem_cons_succ, List.setIfInBounds_toArray, List.set_cons_zero, List.set_cons_succ]
            refine wpAnyH_take (i := 3) (v := ?_) rfl (by kernel_rfl) (by kernel_rfl) (by kernel_rfl) (fun _ _ _ h => h) (Or.inl ⟨by rfl, ?_⟩) (by assumption) ?_
            rotate_left
            · (intro wz hSw; (try dsimp only at hSw); go_simp; try with_reducible rfl)
            simp only [Act.put, List.getElem_toArray, List.getElem_cons_zero, List.getElem_cons_succ, List.setIfInBounds_toArray, List.set_cons_zero, List.set_cons_succ]
            refine wpAnyH_ready (rs := [4, 6]) (by kernel_rfl) (by simp) ?_
            refine AllReadyH.cons rfl (fun K hK => ?_) ?_
            · have hn9 := below_new u8 (.cells #[.int .i64 (-1), .int .i64 ((d.length : Int) + 1), .int .i64 0] 3)
              replace rr := rowKeep rr hn9
              replace ra := rowKeep ra hn9
              replace o2 := o2.below hn9
              replace hr := hr.below hn9
              replace hF := fr_below hF hn9
              have mr10_0 : (u8.alloc (.cells #[.int .i64 (-1), .int .i64 ((d.length : Int) + 1), .int .i64 0] 3)).cell? ⟨w.heap.size, 0, none⟩ = some (.slice none 0 0) := cell_of_row _ _ 0 _ _ _ rr
              have mr10_1 : (u8.alloc (.cells #[.int .i64 (-1), .int .i64 ((d.length : Int) + 1), .int .i64 0] 3)).cell? ⟨w.heap.size, 1, none⟩ = some (.int .i64 0) := cell_of_row _ _ 1 _ _ _ rr
              have mr10_2 : (u8.alloc (.cells #[.int .i64 (-1), .int .i64 ((d.length : Int) + 1), .int .i64 0] 3)).cell? ⟨w.heap.size, 2, none⟩ = some (.bool false) := cell_of_row _ _ 2 _ _ _ rr
              have mr10_3 : (u8.alloc (.cells #[.int .i64 (-1), .int .i64 ((d.length : Int) + 1), .int .i64 0] 3)).cell? ⟨w.heap.size, 3, none⟩ = some (.int .i64 0) := cell_of_row _ _ 3 _ _ _ rr
              have mr10_4 : (u8.alloc (.cells #[.int .i64 (-1), .int .i64 ((d.length : Int) + 1), .int .i64 0] 3)).cell? ⟨w.heap.size, 4, none⟩ = some (.bool false) := cell_of_row _ _ 4 _ _ _ rr
              have mr10_5 : (u8.alloc (.cells #[.int .i64 (-1), .int .i64 ((d.length : Int) + 1), .int .i64 0] 3)).cell? ⟨w.heap.size, 5, none⟩ = some (.int .i64 0) := cell_of_row _ _ 5 _ _ _ rr
              have ma7_0 : (u8.alloc (.cells #[.int .i64 (-1), .int .i64 ((d.length : Int) + 1), .int .i64 0] 3)).cell? ⟨w3.heap.size, 0, none⟩ = some (.slice A d.length c) := cell_of_row _ _ 0 _ _ _ ra
              have ma7_1 : (u8.alloc (.cells #[.int .i64 (-1), .int .i64 ((d.length : Int) + 1), .int .i64 0] 3)).cell? ⟨w3.heap.size, 1, none⟩ = some (.int .i64 ps) := cell_of_row _ _ 1 _ _ _ ra
              have ma7_2 : (u8.alloc (.cells #[.int .i64 (-1), .int .i64 ((d.length : Int) + 1), .int .i64 0] 3)).cell? ⟨w3.heap.size, 2, none⟩ = some (.bool pp) := cell_of_row _ _ 2 _ _ _ ra
              have ma7_3 : (u8.alloc (.cells #[.int .i64 (-1), .int .i64 ((d.length : Int) + 1), .int .i64 0] 3)).cell? ⟨w3.heap.size, 3, none⟩ = some (.int .i64 tk) := cell_of_row _ _ 3 _ _ _ ra
              have ma7_4 : (u8.alloc (.cells #[.int .i64 (-1), .int .i64 ((d.length : Int) + 1), .int .i64 0] 3)).cell? ⟨w3.heap.size, 4, none⟩ = some (.bool tp) := cell_of_row _ _ 4 _ _ _ ra
              have ma7_5 : (u8.alloc (.cells #[.int .i64 (-1), .int .i64 ((d.length : Int) + 1), .int .i64 0] 3)).cell? ⟨w3.heap.size, 5, none⟩ = some (.int .i64 pd) := cell_of_row _ _ 5 _ _ _ ra
              clear hn9
              have s9 : u8.heap.size < (u8.alloc (.cells #[.int .i64 (-1), .int .i64 ((d.length : Int) + 1), .int .i64 0] 3)).heap.size := Nat.lt_of_lt_of_eq (Nat.lt_succ_self _) (World.size_alloc _ _).symm
              have rl : (u8.alloc (.cells #[.int .i64 (-1), .int .i64 ((d.length : Int) + 1), .int .i64 0] 3)).heap[u8.heap.size]? = some (.cells #[.int .i64 (-1), .int .i64 ((d.length : Int) + 1), .int .i64 0] 3 (0, 0)) := by have q := heap_alloc_new u8 (.cells #[.int .i64 (-1), .int .i64 ((d.length : Int) + 1), .int .i64 0] 3); (try simp only [World.size_alloc, World.size_setCell] at q); exact q
              go_simp
              refine hK.out _ _ trivial (fun hHeld => ?_)
              clear mr9_0 mr9_1 mr9_2 mr9_3 mr9_4 mr9_5 ma6_0 ma6_1 ma6_2 ma6_3 ma6_4 ma6_5
              generalize (u8.alloc (.cells #[.int .i64 (-1), .int .i64 ((d.length : Int) + 1), .int .i64 0] 3)) = u9 at *
              clear hK K
              try simp only [Act.put, List.getElem_toArray, List.getElem_cons_zero, List.getElem_cons_succ, List.setIfInBounds_toArray, List.set_cons_zero, List.set_cons_succ]
              refine wpAnyH_ready (rs := [6]) (by kernel_rfl) (by simp) ?_
              refine AllReadyH.cons rfl (fun K hK => ?_) ?_
              · go_simp
                refine (pick_any (R) ((q4 + 1)) (3) _ hr (by omega)).mono ?_
                rintro e w10 ⟨i3, rfl, h10, q10, f10, e10⟩
                have s10 := f10.size
                clear hr
                have hr := q10
                clear q10
                clear mr10_0 mr10_1 mr10_2 mr10_3 mr10_4 mr10_5
                clear ma7_0 ma7_1 ma7_2 ma7_3 ma7_4 ma7_5
                replace rr := rowFr rr f10 (by omega)
                replace ra := rowFr ra f10 (by omega)
                replace rl := rowFr rl f10 (by omega)
                replace o2 := o2.fr f10 (by omega)
                replace hF := hF.trans f10
                have mr11_0 : w10.cell? ⟨w.heap.size, 0, none⟩ = some (.slice none 0 0) := cell_of_row _ _ 0 _ _ _ rr
                have mr11_1 : w10.cell? ⟨w.heap.size, 1, none⟩ = some (.int .i64 0) := cell_of_row _ _ 1 _ _ _ rr
                have mr11_2 : w10.cell? ⟨w.heap.size, 2, none⟩ = some (.bool false) := cell_of_row _ _ 2 _ _ _ rr
                have mr11_3 : w10.cell? ⟨w.heap.size, 3, none⟩ = some (.int .i64 0) := cell_of_row _ _ 3 _ _ _ rr
                have mr11_4 : w10.cell? ⟨w.heap.size, 4, none⟩ = some (.bool false) := cell_of_row _ _ 4 _ _ _ rr
                have mr11_5 : w10.cell? ⟨w.heap.size, 5, none⟩ = some (.int .i64 0) := cell_of_row _ _ 5 _ _ _ rr
                have ma8_0 : w10.cell? ⟨w3.heap.size, 0, none⟩ = some (.slice A d.length c) := cell_of_row _ _ 0 _ _ _ ra
                have ma8_1 : w10.cell? ⟨w3.heap.size, 1, none⟩ = some (.int .i64 ps) := cell_of_row _ _ 1 _ _ _ ra
                have ma8_2 : w10.cell? ⟨w3.heap.size, 2, none⟩ = some (.bool pp) := cell_of_row _ _ 2 _ _ _ ra
                have ma8_3 : w10.cell? ⟨w3.heap.size, 3, none⟩ = some (.int .i64 tk) := cell_of_row _ _ 3 _ _ _ ra
                have ma8_4 : w10.cell? ⟨w3.heap.size, 4, none⟩ = some (.bool tp) := cell_of_row _ _ 4 _ _ _ ra
                have ma8_5 : w10.cell? ⟨w3.heap.size, 5, none⟩ = some (.int .i64 pd) := cell_of_row _ _ 5 _ _ _ ra
                clear f10
                obtain ⟨i30, i31⟩ : 0 ≤ i3 ∧ i3 < 3 := by omega
                clear h10 e10
                refine hK.out _ _ trivial (fun hHeld => ?_)
                clear hK K
                try simp only [Act.put, List.getElem_toArray, List.getElem_cons_zero, List.getElem_cons_succ, List.setIfInBounds_toArray, List.set_cons_zero, List.set_cons_succ]
                refine wpAnyH_take (i := 7) (v := ?_) rfl (by kernel_rfl) (by kernel_rfl) (by kernel_rfl) (fun _ _ _ h => h) (Or.inl ⟨by rfl, ?_⟩) (by assumption) ?_
                rotate_left
                · (intro wz hSw; (try dsimp only at hSw); go_simp; try with_reducible rfl)
                simp only [Act.put, List.getElem_toArray, List.getElem_cons_zero, List.getElem_cons_succ, List.setIfInBounds_toArray, List.set_cons_zero, List.set_cons_succ]
                refine wpAnyH_ready (rs := [8]) (by kernel_rfl) (by simp) ?_
                refine AllReadyH.cons rfl (fun K hK => ?_) ?_
                · obtain ⟨y, hy, hpk⟩ := pickL (fun x => -1 ≤ x ∧ x ≤ 18) [-1, (d.length : Int) + 1, 0] i3 (by intro z hz; simp only [List.mem_cons, List.not_mem_nil, or_false] at hz; omega) i30 i31
                  have hcw := lit_at rl hpk
                  clear hpk
                  go_simp
                  clear hcw
                  refine hK.out _ _ trivial (fun hHeld => ?_)
                  clear hK K
                  try simp only [Act.put, List.getElem_toArray, List.getElem_cons_zero, List.getElem_cons_succ, List.setIfInBounds_toArray, List.set_cons_zero, List.set_cons_succ]
                  refine wpAnyH_take (i := 9) (v := ?_) rfl (by kernel_rfl) (by kernel_rfl) (by kernel_rfl) (fun _ _ _ h => h) (Or.inl ⟨by rfl, ?_⟩) (by assumption) ?_
                  rotate_left
                  · (intro wz hSw; (try dsimp only at hSw); go_simp; try with_reducible rfl)
                  simp only [Act.put, List.getElem_toArray, List.getElem_cons_zero, List.getElem_cons_succ, List.setIfInBounds_toArray, List.set_cons_zero, List.set_cons_succ]
                  refine wpAnyH_ready (rs := [10]) (by kernel_rfl) (by simp) ?_
                  refine AllReadyH.cons rfl (fun K hK => ?_) ?_
                  · have z11 := frzRow ra 5
                    replace rr := rowSet rr ⟨w3.heap.size, 5, none⟩ (.int .i64 y) (by show _ ≠ w3.heap.size; omega)
                    replace rl := rowSet rl ⟨w3.heap.size, 5, none⟩ (.int .i64 y) (by show _ ≠ w3.heap.size; omega)
                    replace ra : (w10.setCell ⟨w3.heap.size, 5, none⟩ (.int .i64 y)).heap[w3.heap.size]? = some (.cells #[.slice A d.length c, .int .i64 ps, .bool pp, .int .i64 tk, .bool tp, .int .i64 y] 24 (0, 0)) := by rw [heap_setCell_same _ _ 5 _ _ _ ra]; rfl
                    replace o2 := o2.setOther ⟨w3.heap.size, 5, none⟩ (.int .i64 y) (by show w3.heap.size < _ ∨ _ ≤ w3.heap.size; omega)
                    replace hr := rd_setc hr ⟨w3.heap.size, 5, none⟩ (.int .i64 y) (by show _ < w3.heap.size; omega)
                    replace hF := fr_setd hF (p := ⟨w3.heap.size, 5, none⟩) (by show _ ≤ w3.heap.size; omega) (.int .i64 y)
                    have s11 : w10.heap.size ≤ (w10.setCell ⟨w3.heap.size, 5, none⟩ (.int .i64 y)).heap.size := Nat.le_of_eq (World.size_setCell _ _ _).symm
                    have mr12_0 : (w10.setCell ⟨w3.heap.size, 5, none⟩ (.int .i64 y)).cell? ⟨w.heap.size, 0, none⟩ = some (.slice none 0 0) := cell_of_row _ _ 0 _ _ _ rr
                    have mr12_1 : (w10.setCell ⟨w3.heap.size, 5, none⟩ (.int .i64 y)).cell? ⟨w.heap.size, 1, none⟩ = some (.int .i64 0) := cell_of_row _ _ 1 _ _ _ rr
                    have mr12_2 : (w10.setCell ⟨w3.heap.size, 5, none⟩ (.int .i64 y)).cell? ⟨w.heap.size, 2, none⟩ = some (.bool false) := cell_of_row _ _ 2 _ _ _ rr
                    have mr12_3 : (w10.setCell ⟨w3.heap.size, 5, none⟩ (.int .i64 y)).cell? ⟨w.heap.size, 3, none⟩ = some (.int .i64 0) := cell_of_row _ _ 3 _ _ _ rr
                    have mr12_4 : (w10.setCell ⟨w3.heap.size, 5, none⟩ (.int .i64 y)).cell? ⟨w.heap.size, 4, none⟩ = some (.bool false) := cell_of_row _ _ 4 _ _ _ rr
                    have mr12_5 : (w10.setCell ⟨w3.heap.size, 5, none⟩ (.int .i64 y)).cell? ⟨w.heap.size, 5, none⟩ = some (.int .i64 0) := cell_of_row _ _ 5 _ _ _ rr
                    have ma9_0 : (w10.setCell ⟨w3.heap.size, 5, none⟩ (.int .i64 y)).cell? ⟨w3.heap.size, 0, none⟩ = some (.slice A d.length c) := cell_of_row _ _ 0 _ _ _ ra
                    have ma9_1 : (w10.setCell ⟨w3.heap.size, 5, none⟩ (.int .i64 y)).cell? ⟨w3.heap.size, 1, none⟩ = some (.int .i64 ps) := cell_of_row _ _ 1 _ _ _ ra
                    have ma9_2 : (w10.setCell ⟨w3.heap.size, 5, none⟩ (.int .i64 y)).cell? ⟨w3.heap.size, 2, none⟩ = some (.bool pp) := cell_of_row _ _ 2 _ _ _ ra
                    have ma9_3 : (w10.setCell ⟨w3.heap.size, 5, none⟩ (.int .i64 y)).cell? ⟨w3.heap.size, 3, none⟩ = some (.int .i64 tk) := cell_of_row _ _ 3 _ _ _ ra
                    have ma9_4 : (w10.setCell ⟨w3.heap.size, 5, none⟩ (.int .i64 y)).cell? ⟨w3.heap.size, 4, none⟩ = some (.bool tp) := cell_of_row _ _ 4 _ _ _ ra
                    have ma9_5 : (w10.setCell ⟨w3.heap.size, 5, none⟩ (.int .i64 y)).cell? ⟨w3.heap.size, 5, none⟩ = some (.int .i64 y) := cell_of_row _ _ 5 _ _ _ ra
                    go_simp
                    refine hK.out _ _ trivial (fun hHeld => ?_)
                    clear z11 mr11_0 mr11_1 mr11_2 mr11_3 mr11_4 mr11_5 ma8_0 ma8_1 ma8_2 ma8_3 ma8_4 ma8_5
                    generalize (w10.setCell ⟨w3.heap.size, 5, none⟩ (.int .i64 y)) = u11 at *
                    clear hK K
                    try simp only [Act.put, List.getElem_toArray, List.getElem_cons_zero, List.getElem_cons_succ, List.setIfInBounds_toArray, List.set_cons_zero, List.set_cons_succ]
                    refine wpAnyH_done (by kernel_rfl) ?_ _
                    refine NoPanic.normal ?_
                    have z12_0 := frzRow rr 0
                    have z12_1 := frzRow rr 1
                    have z12_2 := frzRow rr 2
                    have z12_3 := frzRow rr 3
                    have z12_4 := frzRow rr 4
                    have z12_5 := frzRow rr 5
                    replace ra := rowSet (rowSet (rowSet (rowSet (rowSet (rowSet (ra) ⟨w.heap.size, 0, none⟩ (.slice A d.length c) (by show _ ≠ w.heap.size; omega)) ⟨w.heap.size, 1, none⟩ (.int .i64 ps) (by show _ ≠ w.heap.size; omega)) ⟨w.heap.size, 2, none⟩ (.bool pp) (by show _ ≠ w.heap.size; omega)) ⟨w.heap.size, 3, none⟩ (.int .i64 tk) (by show _ ≠ w.heap.size; omega)) ⟨w.heap.size, 4, none⟩ (.bool tp) (by show _ ≠ w.heap.size; omega)) ⟨w.heap.size, 5, none⟩ (.int .i64 y) (by show _ ≠ w.heap.size; omega)
                    replace rl := rowSet (rowSet (rowSet (rowSet (rowSet (rowSet (rl) ⟨w.heap.size, 0, none⟩ (.slice A d.length c) (by show _ ≠ w.heap.size; omega)) ⟨w.heap.size, 1, none⟩ (.int .i64 ps) (by show _ ≠ w.heap.size; omega)) ⟨w.heap.size, 2, none⟩ (.bool pp) (by show _ ≠ w.heap.size; omega)) ⟨w.heap.size, 3, none⟩ (.int .i64 tk) (by show _ ≠ w.heap.size; omega)) ⟨w.heap.size, 4, none⟩ (.bool tp) (by show _ ≠ w.heap.size; omega)) ⟨w.heap.size, 5, none⟩ (.int .i64 y) (by show _ ≠ w.heap.size; omega)
                    replace rr := put5 (put4 (put3 (put2 (put1 (put0 (rr) (.slice A d.length c)) (.int .i64 ps)) (.bool pp)) (.int .i64 tk)) (.bool tp)) (.int .i64 y)
                    replace o2 := ((((((o2).setOther ⟨w.heap.size, 0, none⟩ (.slice A d.length c) (by show w.heap.size < _ ∨ _ ≤ w.heap.size; omega)).setOther ⟨w.heap.size, 1, none⟩ (.int .i64 ps) (by show w.heap.size < _ ∨ _ ≤ w.heap.size; omega)).setOther ⟨w.heap.size, 2, none⟩ (.bool pp) (by show w.heap.size < _ ∨ _ ≤ w.heap.size; omega)).setOther ⟨w.heap.size, 3, none⟩ (.int .i64 tk) (by show w.heap.size < _ ∨ _ ≤ w.heap.size; omega)).setOther ⟨w.heap.size, 4, none⟩ (.bool tp) (by show w.heap.size < _ ∨ _ ≤ w.heap.size; omega)).setOther ⟨w.heap.size, 5, none⟩ (.int .i64 y) (by show w.heap.size < _ ∨ _ ≤ w.heap.size; omega)
                    replace hr := rd_setc (rd_setc (rd_setc (rd_setc (rd_setc (rd_setc (hr) ⟨w.heap.size, 0, none⟩ (.slice A d.length c) (by show _ < w.heap.size; omega)) ⟨w.heap.size, 1, none⟩ (.int .i64 ps) (by show _ < w.heap.size; omega)) ⟨w.heap.size, 2, none⟩ (.bool pp) (by show _ < w.heap.size; omega)) ⟨w.heap.size, 3, none⟩ (.int .i64 tk) (by show _ < w.heap.size; omega)) ⟨w.heap.size, 4, none⟩ (.bool tp) (by show _ < w.heap.size; omega)) ⟨w.heap.size, 5, none⟩ (.int .i64 y) (by show _ < w.heap.size; omega)
                    replace hF := fr_setd (fr_setd (fr_setd (fr_setd (fr_setd (fr_setd (hF) (p := ⟨w.heap.size, 0, none⟩) (by show _ ≤ w.heap.size; omega) (.slice A d.length c)) (p := ⟨w.heap.size, 1, none⟩) (by show _ ≤ w.heap.size; omega) (.int .i64 ps)) (p := ⟨w.heap.size, 2, none⟩) (by show _ ≤ w.heap.size; omega) (.bool pp)) (p := ⟨w.heap.size, 3, none⟩) (by show _ ≤ w.heap.size; omega) (.int .i64 tk)) (p := ⟨w.heap.size, 4, none⟩) (by show _ ≤ w.heap.size; omega) (.bool tp)) (p := ⟨w.heap.size, 5, none⟩) (by show _ ≤ w.heap.size; omega) (.int .i64 y)
                    have s12 : u11.heap.size ≤ ((((((u11.setCell ⟨w.heap.size, 0, none⟩ (.slice A d.length c)).setCell ⟨w.heap.size, 1, none⟩ (.int .i64 ps)).setCell ⟨w.heap.size, 2, none⟩ (.bool pp)).setCell ⟨w.heap.size, 3, none⟩ (.int .i64 tk)).setCell ⟨w.heap.size, 4, none⟩ (.bool tp)).setCell ⟨w.heap.size, 5, none⟩ (.int .i64 y)).heap.size := by simp only [World.size_setCell]; exact Nat.le_refl _
                    have mr13_0 : ((((((u11.setCell ⟨w.heap.size, 0, none⟩ (.slice A d.length c)).setCell ⟨w.heap.size, 1, none⟩ (.int .i64 ps)).setCell ⟨w.heap.size, 2, none⟩ (.bool pp)).setCell ⟨w.heap.size, 3, none⟩ (.int .i64 tk)).setCell ⟨w.heap.size, 4, none⟩ (.bool tp)).setCell ⟨w.heap.size, 5, none⟩ (.int .i64 y)).cell? ⟨w.heap.size, 0, none⟩ = some (.slice A d.length c) := cell_of_row _ _ 0 _ _ _ rr
                    have mr13_1 : ((((((u11.setCell ⟨w.heap.size, 0, none⟩ (.slice A d.length c)).setCell ⟨w.heap.size, 1, none⟩ (.int .i64 ps)).setCell ⟨w.heap.size, 2, none⟩ (.bool pp)).setCell ⟨w.heap.size, 3, none⟩ (.int .i64 tk)).setCell ⟨w.heap.size, 4, none⟩ (.bool tp)).setCell ⟨w.heap.size, 5, none⟩ (.int .i64 y)).cell? ⟨w.heap.size, 1, none⟩ = some (.int .i64 ps) := cell_of_row _ _ 1 _ _ _ rr
                    have mr13_2 : ((((((u11.setCell ⟨w.heap.size, 0, none⟩ (.slice A d.length c)).setCell ⟨w.heap.size, 1, none⟩ (.int .i64 ps)).setCell ⟨w.heap.size, 2, none⟩ (.bool pp)).setCell ⟨w.heap.size, 3, none⟩ (.int .i64 tk)).setCell ⟨w.heap.size, 4, none⟩ (.bool tp)).setCell ⟨w.heap.size, 5, none⟩ (.int .i64 y)).cell? ⟨w.heap.size, 2, none⟩ = some (.bool pp) := cell_of_row _ _ 2 _ _ _ rr
                    have mr13_3 : ((((((u11.setCell ⟨w.heap.size, 0, none⟩ (.slice A d.length c)).setCell ⟨w.heap.size, 1, none⟩ (.int .i64 ps)).setCell ⟨w.heap.size, 2, none⟩ (.bool pp)).setCell ⟨w.heap.size, 3, none⟩ (.int .i64 tk)).setCell ⟨w.heap.size, 4, none⟩ (.bool tp)).setCell ⟨w.heap.size, 5, none⟩ (.int .i64 y)).cell? ⟨w.heap.size, 3, none⟩ = some (.int .i64 tk) := cell_of_row _ _ 3 _ _ _ rr
                    have mr13_4 : ((((((u11.setCell ⟨w.heap.size, 0, none⟩ (.slice A d.length c)).setCell ⟨w.heap.size, 1, none⟩ (.int .i64 ps)).setCell ⟨w.heap.size, 2, none⟩ (.bool pp)).setCell ⟨w.heap.size, 3, none⟩ (.int .i64 tk)).setCell ⟨w.heap.size, 4, none⟩ (.bool tp)).setCell ⟨w.heap.size, 5, none⟩ (.int .i64 y)).cell? ⟨w.heap.size, 4, none⟩ = some (.bool tp) := cell_of_row _ _ 4 _ _ _ rr
                    have mr13_5 : ((((((u11.setCell ⟨w.heap.size, 0, none⟩ (.slice A d.length c)).setCell ⟨w.heap.size, 1, none⟩ (.int .i64 ps)).setCell ⟨w.heap.size, 2, none⟩ (.bool pp)).setCell ⟨w.heap.size, 3, none⟩ (.int .i64 tk)).setCell ⟨w.heap.size, 4, none⟩ (.bool tp)).setCell ⟨w.heap.size, 5, none⟩ (.int .i64 y)).cell? ⟨w.heap.size, 5, none⟩ = some (.int .i64 y) := cell_of_row _ _ 5 _ _ _ rr
                    have ma10_0 : ((((((u11.setCell ⟨w.heap.size, 0, none⟩ (.slice A d.length c)).setCell ⟨w.heap.size, 1, none⟩ (.int .i64 ps)).setCell ⟨w.heap.size, 2, none⟩ (.bool pp)).setCell ⟨w.heap.size, 3, none⟩ (.int .i64 tk)).setCell ⟨w.heap.size, 4, none⟩ (.bool tp)).setCell ⟨w.heap.size, 5, none⟩ (.int .i64 y)).cell? ⟨w3.heap.size, 0, none⟩ = some (.slice A d.length c) := cell_of_row _ _ 0 _ _ _ ra
                    have ma10_1 : ((((((u11.setCell ⟨w.heap.size, 0, none⟩ (.slice A d.length c)).setCell ⟨w.heap.size, 1, none⟩ (.int .i64 ps)).setCell ⟨w.heap.size, 2, none⟩ (.bool pp)).setCell ⟨w.heap.size, 3, none⟩ (.int .i64 tk)).setCell ⟨w.heap.size, 4, none⟩ (.bool tp)).setCell ⟨w.heap.size, 5, none⟩ (.int .i64 y)).cell? ⟨w3.heap.size, 1, none⟩ = some (.int .i64 ps) := cell_of_row _ _ 1 _ _ _ ra
                    have ma10_2 : ((((((u11.setCell ⟨w.heap.size, 0, none⟩ (.slice A d.length c)).setCell ⟨w.heap.size, 1, none⟩ (.int .i64 ps)).setCell ⟨w.heap.size, 2, none⟩ (.bool pp)).setCell ⟨w.heap.size, 3, none⟩ (.int .i64 tk)).setCell ⟨w.heap.size, 4, none⟩ (.bool tp)).setCell ⟨w.heap.size, 5, none⟩ (.int .i64 y)).cell? ⟨w3.heap.size, 2, none⟩ = some (.bool pp) := cell_of_row _ _ 2 _ _ _ ra
                    have ma10_3 : ((((((u11.setCell ⟨w.heap.size, 0, none⟩ (.slice A d.length c)).setCell ⟨w.heap.size, 1, none⟩ (.int .i64 ps)).setCell ⟨w.heap.size, 2, none⟩ (.bool pp)).setCell ⟨w.heap.size, 3, none⟩ (.int .i64 tk)).setCell ⟨w.heap.size, 4, none⟩ (.bool tp)).setCell ⟨w.heap.size, 5, none⟩ (.int .i64 y)).cell? ⟨w3.heap.size, 3, none⟩ = some (.int .i64 tk) := cell_of_row _ _ 3 _ _ _ ra
                    have ma10_4 : ((((((u11.setCell ⟨w.heap.size, 0, none⟩ (.slice A d.length c)).setCell ⟨w.heap.size, 1, none⟩ (.int .i64 ps)).setCell ⟨w.heap.size, 2, none⟩ (.bool pp)).setCell ⟨w.heap.size, 3, none⟩ (.int .i64 tk)).setCell ⟨w.heap.size, 4, none⟩ (.bool tp)).setCell ⟨w.heap.size, 5, none⟩ (.int .i64 y)).cell? ⟨w3.heap.size, 4, none⟩ = some (.bool tp) := cell_of_row _ _ 4 _ _ _ ra
                    have ma10_5 : ((((((u11.setCell ⟨w.heap.size, 0, none⟩ (.slice A d.length c)).setCell ⟨w.heap.size, 1, none⟩ (.int .i64 ps)).setCell ⟨w.heap.size, 2, none⟩ (.bool pp)).setCell ⟨w.heap.size, 3, none⟩ (.int .i64 tk)).setCell ⟨w.heap.size, 4, none⟩ (.bool tp)).setCell ⟨w.heap.size, 5, none⟩ (.int .i64 y)).cell? ⟨w3.heap.size, 5, none⟩ = some (.int .i64 y) := cell_of_row _ _ 5 _ _ _ ra
                    go_wp2_with fail
                    refine bodyPost_ret (v := .agg #[.slice A d.length c, .int .i64 ps, .bool pp, .int .i64 tk, .bool tp, .int .i64 y]) (by simp only [results, Try.results42]; simp [go_sem, mr13_0, mr13_1, mr13_2, mr13_3, mr13_4, mr13_5]) rfl ?_
                    exact ⟨_, _, d, ps, pp, tk, tp, y, ((q4 + 1) + 1), rfl, ⟨o2.wide (by omega) (by omega), by omega⟩, by omega, hr, hF⟩
                  exact AllReadyH.nil
                exact AllReadyH.nil
              exact AllReadyH.nil
            refine AllReadyH.cons rfl (fun K hK => ?_) ?_
            · go_simp
              refine (pick_any (R) ((q4 + 1)) (3) _ hr (by omega)).mono ?_
              rintro e w9 ⟨i3, rfl, h9, q9, f9, e9⟩
              have s9 := f9.size
              clear hr
              have hr := q9
              clear q9
              clear mr9_0 mr9_1 mr9_2 mr9_3 mr9_4 mr9_5
              clear ma6_0 ma6_1 ma6_2 ma6_3 ma6_4 ma6_5
              replace rr := rowFr rr f9 (by omega)
              replace ra := rowFr ra f9 (by omega)
              replace o2 := o2.fr f9 (by omega)
              replace hF := hF.trans f9
              have mr10_0 : w9.cell? ⟨w.heap.size, 0, none⟩ = some (.slice none 0 0) := cell_of_row _ _ 0 _ _ _ rr
              have mr10_1 : w9.cell? ⟨w.heap.size, 1, none⟩ = some (.int .i64 0) := cell_of_row _ _ 1 _ _ _ rr
              have mr10_2 : w9.cell? ⟨w.heap.size, 2, none⟩ = some (.bool false) := cell_of_row _ _ 2 _ _ _ rr
              have mr10_3 : w9.cell? ⟨w.heap.size, 3, none⟩ = some (.int .i64 0) := cell_of_row _ _ 3 _ _ _ rr
              have mr10_4 : w9.cell? ⟨w.heap.size, 4, none⟩ = some (.bool false) := cell_of_row _ _ 4 _ _ _ rr
              have mr10_5 : w9.cell? ⟨w.heap.size, 5, none⟩ = some (.int .i64 0) := cell_of_row _ _ 5 _ _ _ rr
              have ma7_0 : w9.cell? ⟨w3.heap.size, 0, none⟩ = some (.slice A d.length c) := cell_of_row _ _ 0 _ _ _ ra
              have ma7_1 : w9.cell? ⟨w3.heap.size, 1, none⟩ = some (.int .i64 ps) := cell_of_row _ _ 1 _ _ _ ra
              have ma7_2 : w9.cell? ⟨w3.heap.size, 2, none⟩ = some (.bool pp) := cell_of_row _ _ 2 _ _ _ ra
              have ma7_3 : w9.cell? ⟨w3.heap.size, 3, none⟩ = some (.int .i64 tk) := cell_of_row _ _ 3 _ _ _ ra
              have ma7_4 : w9.cell? ⟨w3.heap.size, 4, none⟩ = some (.bool tp) := cell_of_row _ _ 4 _ _ _ ra
              have ma7_5 : w9.cell? ⟨w3.heap.size, 5, none⟩ = some (.int .i64 pd) := cell_of_row _ _ 5 _ _ _ ra
              clear f9
              obtain ⟨i30, i31⟩ : 0 ≤ i3 ∧ i3 < 3 := by omega
              clear h9 e9
              refine hK.out _ _ trivial (fun hHeld => ?_)
              clear hK K
              try simp only [Act.put, List.getElem_toArray, List.getElem_cons_zero, List.getElem_cons_succ, List.setIfInBounds_toArray, List.set_cons_zero, List.set_cons_succ]
              refine wpAnyH_ready (rs := [4]) (by kernel_rfl) (by simp) ?_
              refine AllReadyH.cons rfl (fun K hK => ?_) ?_
              · have hn10 := below_new w9 (.cells #[.int .i64 (-1), .int .i64 ((d.length : Int) + 1), .int .i64 0] 3)
                replace rr := rowKeep rr hn10
                replace ra := rowKeep ra hn10
                replace o2 := o2.below hn10
                replace hr := hr.below hn10
                replace hF := fr_below hF hn10
                have mr11_0 : (w9.alloc (.cells #[.int .i64 (-1), .int .i64 ((d.length : Int) + 1), .int .i64 0] 3)).cell? ⟨w.heap.size, 0, none⟩ = some (.slice none 0 0) := cell_of_row _ _ 0 _ _ _ rr
                have mr11_1 : (w9.alloc (.cells #[.int .i64 (-1), .int .i64 ((d.length : Int) + 1), .int .i64 0] 3)).cell? ⟨w.heap.size, 1, none⟩ = some (.int .i64 0) := cell_of_row _ _ 1 _ _ _ rr
                have mr11_2 : (w9.alloc (.cells #[.int .i64 (-1), .int .i64 ((d.length : Int) + 1), .int .i64 0] 3)).cell? ⟨w.heap.size, 2, none⟩ = some (.bool false) := cell_of_row _ _ 2 _ _ _ rr
                have mr11_3 : (w9.alloc (.cells #[.int .i64 (-1), .int .i64 ((d.length : Int) + 1), .int .i64 0] 3)).cell? ⟨w.heap.size, 3, none⟩ = some (.int .i64 0) := cell_of_row _ _ 3 _ _ _ rr
                have mr11_4 : (w9.alloc (.cells #[.int .i64 (-1), .int .i64 ((d.length : Int) + 1), .int .i64 0] 3)).cell? ⟨w.heap.size, 4, none⟩ = some (.bool false) := cell_of_row _ _ 4 _ _ _ rr
                have mr11_5 : (w9.alloc (.cells #[.int .i64 (-1), .int .i64 ((d.length : Int) + 1), .int .i64 0] 3)).cell? ⟨w.heap.size, 5, none⟩ = some (.int .i64 0) := cell_of_row _ _ 5 _ _ _ rr
                have ma8_0 : (w9.alloc (.cells #[.int .i64 (-1), .int .i64 ((d.length : Int) + 1), .int .i64 0] 3)).cell? ⟨w3.heap.size, 0, none⟩ = some (.slice A d.length c) := cell_of_row _ _ 0 _ _ _ ra
                have ma8_1 : (w9.alloc (.cells #[.int .i64 (-1), .int .i64 ((d.length : Int) + 1), .int .i64 0] 3)).cell? ⟨w3.heap.size, 1, none⟩ = some (.int .i64 ps) := cell_of_row _ _ 1 _ _ _ ra
                have ma8_2 : (w9.alloc (.cells #[.int .i64 (-1), .int .i64 ((d.length : Int) + 1), .int .i64 0] 3)).cell? ⟨w3.heap.size, 2, none⟩ = some (.bool pp) := cell_of_row _ _ 2 _ _ _ ra
                have ma8_3 : (w9.alloc (.cells #[.int .i64 (-1), .int .i64 ((d.length : Int) + 1), .int .i64 0] 3)).cell? ⟨w3.heap.size, 3, none⟩ = some (.int .i64 tk) := cell_of_row _ _ 3 _ _ _ ra
                have ma8_4 : (w9.alloc (.cells #[.int .i64 (-1), .int .i64 ((d.length : Int) + 1), .int .i64 0] 3)).cell? ⟨w3.heap.size, 4, none⟩ = some (.bool tp) := cell_of_row _ _ 4 _ _ _ ra
                have ma8_5 : (w9.alloc (.cells #[.int .i64 (-1), .int .i64 ((d.length : Int) + 1), .int .i64 0] 3)).cell? ⟨w3.heap.size, 5, none⟩ = some (.int .i64 pd) := cell_of_row _ _ 5 _ _ _ ra
                clear hn10
                have s10 : w9.heap.size < (w9.alloc (.cells #[.int .i64 (-1), .int .i64 ((d.length : Int) + 1), .int .i64 0] 3)).heap.size := Nat.lt_of_lt_of_eq (Nat.lt_succ_self _) (World.size_alloc _ _).symm
                have rl : (w9.alloc (.cells #[.int .i64 (-1), .int .i64 ((d.length : Int) + 1), .int .i64 0] 3)).heap[w9.heap.size]? = some (.cells #[.int .i64 (-1), .int .i64 ((d.length : Int) + 1), .int .i64 0] 3 (0, 0)) := by have q := heap_alloc_new w9 (.cells #[.int .i64 (-1), .int .i64 ((d.length : Int) + 1), .int .i64 0] 3); (try simp only [World.size_alloc, World.size_setCell] at q); exact q
                go_simp
                refine hK.out _ _ trivial (fun hHeld => ?_)
                clear mr10_0 mr10_1 mr10_2 mr10_3 mr10_4 mr10_5 ma7_0 ma7_1 ma7_2 ma7_3 ma7_4 ma7_5
                generalize (w9.alloc (.cells #[.int .i64 (-1), .int .i64 ((d.length : Int) + 1), .int .i64 0] 3)) = u10 at *
                clear hK K
                try simp only [Act.put, List.getElem_toArray, List.getElem_cons_zero, List.getElem_cons_succ, List.setIfInBounds_toArray, List.set_cons_zero, List.set_cons_succ]
                refine wpAnyH_take (i := 7) (v := ?_) rfl (by kernel_rfl) (by kernel_rfl) (by kernel_rfl) (fun _ _ _ h => h) (Or.inl ⟨by rfl, ?_⟩) (by assumption) ?_
                rotate_left
                · (intro wz hSw; (try dsimp only at hSw); go_simp; try with_reducible rfl)
                simp only [Act.put, List.getElem_toArray, List.getElem_cons_zero, List.getElem_cons_succ, List.setIfInBounds_toArray, List.set_cons_zero, List.set_cons_succ]
                refine wpAnyH_ready (rs := [8]) (by kernel_rfl) (by simp) ?_
                refine AllReadyH.cons rfl (fun K hK => ?_) ?_
                · obtain ⟨y, hy, hpk⟩ := pickL (fun x => -1 ≤ x ∧ x ≤ 18) [-1, (d.length : Int) + 1, 0] i3 (by intro z hz; simp only [List.mem_cons, List.not_mem_nil, or_false] at hz; omega) i30 i31
                  have hcw := lit_at rl hpk
                  clear hpk
                  go_simp
                  clear hcw
                  refine hK.out _ _ trivial (fun hHeld => ?_)
                  clear hK K
                  try simp only [Act.put, List.getElem_toArray, List.getElem_cons_zero, List.getElem_cons_succ, List.setIfInBounds_toArray, List.set_cons_zero, List.set_cons_succ]
                  refine wpAnyH_take (i := 9) (v := ?_) rfl (by kernel_rfl) (by kernel_rfl) (by kernel_rfl) (fun _ _ _ h => h) (Or.inl ⟨by rfl, ?_⟩) (by assumption) ?_
                  rotate_left
                  · (intro wz hSw; (try dsimp only at hSw); go_simp; try with_reducible rfl)
                  simp only [Act.put, List.getElem_toArray, List.getElem_cons_zero, List.getElem_cons_succ, List.setIfInBounds_toArray, List.set_cons_zero, List.set_cons_succ]
                  refine wpAnyH_ready (rs := [10]) (by kernel_rfl) (by simp) ?_
                  refine AllReadyH.cons rfl (fun K hK => ?_) ?_
                  · have z11 := frzRow ra 5
                    replace rr := rowSet rr ⟨w3.heap.size, 5, none⟩ (.int .i64 y) (by show _ ≠ w3.heap.size; omega)
                    replace rl := rowSet rl ⟨w3.heap.size, 5, none⟩ (.int .i64 y) (by show _ ≠ w3.heap.size; omega)
                    replace ra : (u10.setCell ⟨w3.heap.size, 5, none⟩ (.int .i64 y)).heap[w3.heap.size]? = some (.cells #[.slice A d.length c, .int .i64 ps, .bool pp, .int .i64 tk, .bool tp, .int .i64 y] 24 (0, 0)) := by rw [heap_setCell_same _ _ 5 _ _ _ ra]; rfl
                    replace o2 := o2.setOther ⟨w3.heap.size, 5, none⟩ (.int .i64 y) (by show w3.heap.size < _ ∨ _ ≤ w3.heap.size; omega)
                    replace hr := rd_setc hr ⟨w3.heap.size, 5, none⟩ (.int .i64 y) (by show _ < w3.heap.size; omega)
                    replace hF := fr_setd hF (p := ⟨w3.heap.size, 5, none⟩) (by show _ ≤ w3.heap.size; omega) (.int .i64 y)
                    have s11 : u10.heap.size ≤ (u10.setCell ⟨w3.heap.size, 5, none⟩ (.int .i64 y)).heap.size := Nat.le_of_eq (World.size_setCell _ _ _).symm
                    have mr12_0 : (u10.setCell ⟨w3.heap.size, 5, none⟩ (.int .i64 y)).cell? ⟨w.heap.size, 0, none⟩ = some (.slice none 0 0) := cell_of_row _ _ 0 _ _ _ rr
                    have mr12_1 : (u10.setCell ⟨w3.heap.size, 5, none⟩ (.int .i64 y)).cell? ⟨w.heap.size, 1, none⟩ = some (.int .i64 0) := cell_of_row _ _ 1 _ _ _ rr
                    have mr12_2 : (u10.setCell ⟨w3.heap.size, 5, none⟩ (.int .i64 y)).cell? ⟨w.heap.size, 2, none⟩ = some (.bool false) := cell_of_row _ _ 2 _ _ _ rr
                    have mr12_3 : (u10.setCell ⟨w3.heap.size, 5, none⟩ (.int .i64 y)).cell? ⟨w.heap.size, 3, none⟩ = some (.int .i64 0) := cell_of_row _ _ 3 _ _ _ rr
                    have mr12_4 : (u10.setCell ⟨w3.heap.size, 5, none⟩ (.int .i64 y)).cell? ⟨w.heap.size, 4, none⟩ = some (.bool false) := cell_of_row _ _ 4 _ _ _ rr
                    have mr12_5 : (u10.setCell ⟨w3.heap.size, 5, none⟩ (.int .i64 y)).cell? ⟨w.heap.size, 5, none⟩ = some (.int .i64 0) := cell_of_row _ _ 5 _ _ _ rr
                    have ma9_0 : (u10.setCell ⟨w3.heap.size, 5, none⟩ (.int .i64 y)).cell? ⟨w3.heap.size, 0, none⟩ = some (.slice A d.length c) := cell_of_row _ _ 0 _ _ _ ra
                    have ma9_1 : (u10.setCell ⟨w3.heap.size, 5, none⟩ (.int .i64 y)).cell? ⟨w3.heap.size, 1, none⟩ = some (.int .i64 ps) := cell_of_row _ _ 1 _ _ _ ra
                    have ma9_2 : (u10.setCell ⟨w3.heap.size, 5, none⟩ (.int .i64 y)).cell? ⟨w3.heap.size, 2, none⟩ = some (.bool pp) := cell_of_row _ _ 2 _ _ _ ra
                    have ma9_3 : (u10.setCell ⟨w3.heap.size, 5, none⟩ (.int .i64 y)).cell? ⟨w3.heap.size, 3, none⟩ = some (.int .i64 tk) := cell_of_row _ _ 3 _ _ _ ra
                    have ma9_4 : (u10.setCell ⟨w3.heap.size, 5, none⟩ (.int .i64 y)).cell? ⟨w3.heap.size, 4, none⟩ = some (.bool tp) := cell_of_row _ _ 4 _ _ _ ra
                    have ma9_5 : (u10.setCell ⟨w3.heap.size, 5, none⟩ (.int .i64 y)).cell? ⟨w3.heap.size, 5, none⟩ = some (.int .i64 y) := cell_of_row _ _ 5 _ _ _ ra
                    go_simp
                    refine hK.out _ _ trivial (fun hHeld => ?_)
                    clear z11 mr11_0 mr11_1 mr11_2 mr11_3 mr11_4 mr11_5 ma8_0 ma8_1 ma8_2 ma8_3 ma8_4 ma8_5
                    generalize (u10.setCell ⟨w3.heap.size, 5, none⟩ (.int .i64 y)) = u11 at *
                    clear hK K
                    try simp only [Act.put, List.getElem_toArray, List.getElem_cons_zero, List.getElem_cons_succ, List.setIfInBounds_toArray, List.set_cons_zero, List.set_cons_succ]
                    refine wpAnyH_done (by kernel_rfl) ?_ _
                    refine NoPanic.normal ?_
                    have z12_0 := frzRow rr 0
                    have z12_1 := frzRow rr 1
                    have z12_2 := frzRow rr 2
                    have z12_3 := frzRow rr 3
                    have z12_4 := frzRow rr 4
                    have z12_5 := frzRow rr 5
                    replace ra := rowSet (rowSet (rowSet (rowSet (rowSet (rowSet (ra) ⟨w.heap.size, 0, none⟩ (.slice A d.length c) (by show _ ≠ w.heap.size; omega)) ⟨w.heap.size, 1, none⟩ (.int .i64 ps) (by show _ ≠ w.heap.size; omega)) ⟨w.heap.size, 2, none⟩ (.bool pp) (by show _ ≠ w.heap.size; omega)) ⟨w.heap.size, 3, none⟩ (.int .i64 tk) (by show _ ≠ w.heap.size; omega)) ⟨w.heap.size, 4, none⟩ (.bool tp) (by show _ ≠ w.heap.size; omega)) ⟨w.heap.size, 5, none⟩ (.int .i64 y) (by show _ ≠ w.heap.size; omega)
                    replace rl := rowSet (rowSet (rowSet (rowSet (rowSet (rowSet (rl) ⟨w.heap.size, 0, none⟩ (.slice A d.length c) (by show _ ≠ w.heap.size; omega)) ⟨w.heap.size, 1, none⟩ (.int .i64 ps) (by show _ ≠ w.heap.size; omega)) ⟨w.heap.size, 2, none⟩ (.bool pp) (by show _ ≠ w.heap.size; omega)) ⟨w.heap.size, 3, none⟩ (.int .i64 tk) (by show _ ≠ w.heap.size; omega)) ⟨w.heap.size, 4, none⟩ (.bool tp) (by show _ ≠ w.heap.size; omega)) ⟨w.heap.size, 5, none⟩ (.int .i64 y) (by show _ ≠ w.heap.size; omega)
                    replace rr := put5 (put4 (put3 (put2 (put1 (put0 (rr) (.slice A d.length c)) (.int .i64 ps)) (.bool pp)) (.int .i64 tk)) (.bool tp)) (.int .i64 y)
                    replace o2 := ((((((o2).setOther ⟨w.heap.size, 0, none⟩ (.slice A d.length c) (by show w.heap.size < _ ∨ _ ≤ w.heap.size; omega)).setOther ⟨w.heap.size, 1, none⟩ (.int .i64 ps) (by show w.heap.size < _ ∨ _ ≤ w.heap.size; omega)).setOther ⟨w.heap.size, 2, none⟩ (.bool pp) (by show w.heap.size < _ ∨ _ ≤ w.heap.size; omega)).setOther ⟨w.heap.size, 3, none⟩ (.int .i64 tk) (by show w.heap.size < _ ∨ _ ≤ w.heap.size; omega)).setOther ⟨w.heap.size, 4, none⟩ (.bool tp) (by show w.heap.size < _ ∨ _ ≤ w.heap.size; omega)).setOther ⟨w.heap.size, 5, none⟩ (.int .i64 y) (by show w.heap.size < _ ∨ _ ≤ w.heap.size; omega)
                    replace hr := rd_setc (rd_setc (rd_setc (rd_setc (rd_setc (rd_setc (hr) ⟨w.heap.size, 0, none⟩ (.slice A d.length c) (by show _ < w.heap.size; omega)) ⟨w.heap.size, 1, none⟩ (.int .i64 ps) (by show _ < w.heap.size; omega)) ⟨w.heap.size, 2, none⟩ (.bool pp) (by show _ < w.heap.size; omega)) ⟨w.heap.size, 3, none⟩ (.int .i64 tk) (by show _ < w.heap.size; omega)) ⟨w.heap.size, 4, none⟩ (.bool tp) (by show _ < w.heap.size; omega)) ⟨w.heap.size, 5, none⟩ (.int .i64 y) (by show _ < w.heap.size; omega)
                    replace hF := fr_setd (fr_setd (fr_setd (fr_setd (fr_setd (fr_setd (hF) (p := ⟨w.heap.size, 0, none⟩) (by show _ ≤ w.heap.size; omega) (.slice A d.length c)) (p := ⟨w.heap.size, 1, none⟩) (by show _ ≤ w.heap.size; omega) (.int .i64 ps)) (p := ⟨w.heap.size, 2, none⟩) (by show _ ≤ w.heap.size; omega) (.bool pp)) (p := ⟨w.heap.size, 3, none⟩) (by show _ ≤ w.heap.size; omega) (.int .i64 tk)) (p := ⟨w.heap.size, 4, none⟩) (by show _ ≤ w.heap.size; omega) (.bool tp)) (p := ⟨w.heap.size, 5, none⟩) (by show _ ≤ w.heap.size; omega) (.int .i64 y)
                    have s12 : u11.heap.size ≤ ((((((u11.setCell ⟨w.heap.size, 0, none⟩ (.slice A d.length c)).setCell ⟨w.heap.size, 1, none⟩ (.int .i64 ps)).setCell ⟨w.heap.size, 2, none⟩ (.bool pp)).setCell ⟨w.heap.size, 3, none⟩ (.int .i64 tk)).setCell ⟨w.heap.size, 4, none⟩ (.bool tp)).setCell ⟨w.heap.size, 5, none⟩ (.int .i64 y)).heap.size := by simp only [World.size_setCell]; exact Nat.le_refl _
                    have mr13_0 : ((((((u11.setCell ⟨w.heap.size, 0, none⟩ (.slice A d.length c)).setCell ⟨w.heap.size, 1, none⟩ (.int .i64 ps)).setCell ⟨w.heap.size, 2, none⟩ (.bool pp)).setCell ⟨w.heap.size, 3, none⟩ (.int .i64 tk)).setCell ⟨w.heap.size, 4, none⟩ (.bool tp)).setCell ⟨w.heap.size, 5, none⟩ (.int .i64 y)).cell? ⟨w.heap.size, 0, none⟩ = some (.slice A d.length c) := cell_of_row _ _ 0 _ _ _ rr
                    have mr13_1 : ((((((u11.setCell ⟨w.heap.size, 0, none⟩ (.slice A d.length c)).setCell ⟨w.heap.size, 1, none⟩ (.int .i64 ps)).setCell ⟨w.heap.size, 2, none⟩ (.bool pp)).setCell ⟨w.heap.size, 3, none⟩ (.int .i64 tk)).setCell ⟨w.heap.size, 4, none⟩ (.bool tp)).setCell ⟨w.heap.size, 5, none⟩ (.int .i64 y)).cell? ⟨w.heap.size, 1, none⟩ = some (.int .i64 ps) := cell_of_row _ _ 1 _ _ _ rr
                    have mr13_2 : ((((((u11.setCell ⟨w.heap.size, 0, none⟩ (.slice A d.length c)).setCell ⟨w.heap.size, 1, none⟩ (.int .i64 ps)).setCell ⟨w.heap.size, 2, none⟩ (.bool pp)).setCell ⟨w.heap.size, 3, none⟩ (.int .i64 tk)).setCell ⟨w.heap.size, 4, none⟩ (.bool tp)).setCell ⟨w.heap.size, 5, none⟩ (.int .i64 y)).cell? ⟨w.heap.size, 2, none⟩ = some (.bool pp) := cell_of_row _ _ 2 _ _ _ rr
                    have mr13_3 : ((((((u11.setCell ⟨w.heap.size, 0, none⟩ (.slice A d.length c)).setCell ⟨w.heap.size, 1, none⟩ (.int .i64 ps)).setCell ⟨w.heap.size, 2, none⟩ (.bool pp)).setCell ⟨w.heap.size, 3, none⟩ (.int .i64 tk)).setCell ⟨w.heap.size, 4, none⟩ (.bool tp)).setCell ⟨w.heap.size, 5, none⟩ (.int .i64 y)).cell? ⟨w.heap.size, 3, none⟩ = some (.int .i64 tk) := cell_of_row _ _ 3 _ _ _ rr
                    have mr13_4 : ((((((u11.setCell ⟨w.heap.size, 0, none⟩ (.slice A d.length c)).setCell ⟨w.heap.size, 1, none⟩ (.int .i64 ps)).setCell ⟨w.heap.size, 2, none⟩ (.bool pp)).setCell ⟨w.heap.size, 3, none⟩ (.int .i64 tk)).setCell ⟨w.heap.size, 4, none⟩ (.bool tp)).setCell ⟨w.heap.size, 5, none⟩ (.int .i64 y)).cell? ⟨w.heap.size, 4, none⟩ = some (.bool tp) := cell_of_row _ _ 4 _ _ _ rr
                    have mr13_5 : ((((((u11.setCell ⟨w.heap.size, 0, none⟩ (.slice A d.length c)).setCell ⟨w.heap.size, 1, none⟩ (.int .i64 ps)).setCell ⟨w.heap.size, 2, none⟩ (.bool pp)).setCell ⟨w.heap.size, 3, none⟩ (.int .i64 tk)).setCell ⟨w.heap.size, 4, none⟩ (.bool tp)).setCell ⟨w.heap.size, 5, none⟩ (.int .i64 y)).cell? ⟨w.heap.size, 5, none⟩ = some (.int .i64 y) := cell_of_row _ _ 5 _ _ _ rr
                    have ma10_0 : ((((((u11.setCell ⟨w.heap.size, 0, none⟩ (.slice A d.length c)).setCell ⟨w.heap.size, 1, none⟩ (.int .i64 ps)).setCell ⟨w.heap.size, 2, none⟩ (.bool pp)).setCell ⟨w.heap.size, 3, none⟩ (.int .i64 tk)).setCell ⟨w.heap.size, 4, none⟩ (.bool tp)).setCell ⟨w.heap.size, 5, none⟩ (.int .i64 y)).cell? ⟨w3.heap.size, 0, none⟩ = some (.slice A d.length c) := cell_of_row _ _ 0 _ _ _ ra
                    have ma10_1 : ((((((u11.setCell ⟨w.heap.size, 0, none⟩ (.slice A d.length c)).setCell ⟨w.heap.size, 1, none⟩ (.int .i64 ps)).setCell ⟨w.heap.size, 2, none⟩ (.bool pp)).setCell ⟨w.heap.size, 3, none⟩ (.int .i64 tk)).setCell ⟨w.heap.size, 4, none⟩ (.bool tp)).setCell ⟨w.heap.size, 5, none⟩ (.int .i64 y)).cell? ⟨w3.heap.size, 1, none⟩ = some (.int .i64 ps) := cell_of_row _ _ 1 _ _ _ ra
                    have ma10_2 : ((((((u11.setCell ⟨w.heap.size, 0, none⟩ (.slice A d.length c)).setCell ⟨w.heap.size, 1, none⟩ (.int .i64 ps)).setCell ⟨w.heap.size, 2, none⟩ (.bool pp)).setCell ⟨w.heap.size, 3, none⟩ (.int .i64 tk)).setCell ⟨w.heap.size, 4, none⟩ (.bool tp)).setCell ⟨w.heap.size, 5, none⟩ (.int .i64 y)).cell? ⟨w3.heap.size, 2, none⟩ = some (.bool pp) := cell_of_row _ _ 2 _ _ _ ra
                    have ma10_3 : ((((((u11.setCell ⟨w.heap.size, 0, none⟩ (.slice A d.length c)).setCell ⟨w.heap.size, 1, none⟩ (.int .i64 ps)).setCell ⟨w.heap.size, 2, none⟩ (.bool pp)).setCell ⟨w.heap.size, 3, none⟩ (.int .i64 tk)).setCell ⟨w.heap.size, 4, none⟩ (.bool tp)).setCell ⟨w.heap.size, 5, none⟩ (.int .i64 y)).cell? ⟨w3.heap.size, 3, none⟩ = some (.int .i64 tk) := cell_of_row _ _ 3 _ _ _ ra
                    have ma10_4 : ((((((u11.setCell ⟨w.heap.size, 0, none⟩ (.slice A d.length c)).setCell ⟨w.heap.size, 1, none⟩ (.int .i64 ps)).setCell ⟨w.heap.size, 2, none⟩ (.bool pp)).setCell ⟨w.heap.size, 3, none⟩ (.int .i64 tk)).setCell ⟨w.heap.size, 4, none⟩ (.bool tp)).setCell ⟨w.heap.size, 5, none⟩ (.int .i64 y)).cell? ⟨w3.heap.size, 4, none⟩ = some (.bool tp) := cell_of_row _ _ 4 _ _ _ ra
                    have ma10_5 : ((((((u11.setCell ⟨w.heap.size, 0, none⟩ (.slice A d.length c)).setCell ⟨w.heap.size, 1, none⟩ (.int .i64 ps)).setCell ⟨w.heap.size, 2, none⟩ (.bool pp)).setCell ⟨w.heap.size, 3, none⟩ (.int .i64 tk)).setCell ⟨w.heap.size, 4, none⟩ (.bool tp)).setCell ⟨w.heap.size, 5, none⟩ (.int .i64 y)).cell? ⟨w3.heap.size, 5, none⟩ = some (.int .i64 y) := cell_of_row _ _ 5 _ _ _ ra
                    go_wp2_with fail
                    refine bodyPost_ret (v := .agg #[.slice A d.length c, .int .i64 ps, .bool pp, .int .i64 tk, .bool tp, .int .i64 y]) (by simp only [results, Try.results42]; simp [go_sem, mr13_0, mr13_1, mr13_2, mr13_3, mr13_4, mr13_5]) rfl ?_
                    exact ⟨_, _, d, ps, pp, tk, tp, y, ((q4 + 1) + 1), rfl, ⟨o2.wide (by omega) (by omega), by omega⟩, by omega, hr, hF⟩
                  exact AllReadyH.nil
                exact AllReadyH.nil
              exact AllReadyH.nil
            exact AllReadyH.nil
          refine AllReadyH.cons rfl (fun K hK => ?_) ?_
          · go_simp
            refine (pick_any (R) ((q4 + 1)) (3) _ hr (by omega)).mono ?_
            rintro e w9 ⟨i3, rfl, h9, q9, f9, e9⟩
            have s9 := f9.size
            clear hr
            have hr := q9
            clear q9
            clear mr9_0 mr9_1 mr9_2 mr9_3 mr9_4 mr9_5
            clear ma6_0 ma6_1 ma6_2 ma6_3 ma6_4 ma6_5
            replace rr := rowFr rr f9 (by omega)
            replace ra := rowFr ra f9 (by omega)
            replace o2 := o2.fr f9 (by omega)
            replace hF := hF.trans f9
            have mr10_0 : w9.cell? ⟨w.heap.size, 0, none⟩ = some (.slice none 0 0) := cell_of_row _ _ 0 _ _ _ rr
            have mr10_1 : w9.cell? ⟨w.heap.size, 1, none⟩ = some (.int .i64 0) := cell_of_row _ _ 1 _ _ _ rr
            have mr10_2 : w9.cell? ⟨w.heap.size, 2, none⟩ = some (.bool false) := cell_of_row _ _ 2 _ _ _ rr
            have mr10_3 : w9.cell? ⟨w.heap.size, 3, none⟩ = some (.int .i64 0) := cell_of_row _ _ 3 _ _ _ rr
            have mr10_4 : w9.cell? ⟨w.heap.size, 4, none⟩ = some (.bool false) := cell_of_row _ _ 4 _ _ _ rr
            have mr10_5 : w9.cell? ⟨w.heap.size, 5, none⟩ = some (.int .i64 0) := cell_of_row _ _ 5 _ _ _ rr
            have ma7_0 : w9.cell? ⟨w3.heap.size, 0, none⟩ = some (.slice A d.length c) := cell_of_row _ _ 0 _ _ _ ra
            have ma7_1 : w9.cell? ⟨w3.heap.size, 1, none⟩ = some (.int .i64 ps) := cell_of_row _ _ 1 _ _ _ ra
            have ma7_2 : w9.cell? ⟨w3.heap.size, 2, none⟩ = some (.bool pp) := cell_of_row _ _ 2 _ _ _ ra
            have ma7_3 : w9.cell? ⟨w3.heap.size, 3, none⟩ = some (.int .i64 tk) := cell_of_row _ _ 3 _ _ _ ra
            have ma7_4 : w9.cell? ⟨w3.heap.size, 4, none⟩ = some (.bool tp) := cell_of_row _ _ 4 _ _ _ ra
            have ma7_5 : w9.cell? ⟨w3.heap.size, 5, none⟩ = some (.int .i64 pd) := cell_of_row _ _ 5 _ _ _ ra
            clear f9
            obtain ⟨i30, i31⟩ : 0 ≤ i3 ∧ i3 < 3 := by omega
            clear h9 e9
            refine hK.out _ _ trivial (fun hHeld => ?_)
            clear hK K
            try simp only [Act.put, List.getElem_toArray, List.getElem_cons_zero, List.getElem_cons_succ, List.setIfInBounds_toArray, List.set_cons_zero, List.set_cons_succ]
            refine wpAnyH_ready (rs := [1]) (by kernel_rfl) (by simp) ?_
            refine AllReadyH.cons rfl (fun K hK => ?_) ?_
            · go_simp
              refine hK.out _ _ trivial (fun hHeld => ?_)
              clear hK K
              try simp only [Act.put, List.getElem_toArray, List.getElem_cons_zero, List.getElem_cons_succ, List.setIfInBounds_toArray, List.set_cons_zero, List.set_cons_succ]
              refine wpAnyH_take (i := 2) (v := ?_) rfl (by kernel_rfl) (by kernel_rfl) (by kernel_rfl) (fun _ _ _ h => h) (Or.inl ⟨by rfl, ?_⟩) (by assumption) ?_
              rotate_left
              · (intro wz hSw; (try dsimp only at hSw); go_simp; try with_reducible rfl)
              simp only [Act.put, List.getElem_toArray, List.getElem_cons_zero, List.getElem_cons_succ, List.setIfInBounds_toArray, List.set_cons_zero, List.set_cons_succ]
              refine wpAnyH_take (i := 3) (v := ?_) rfl (by kernel_rfl) (by kernel_rfl) (by kernel_rfl) (fun _ _ _ h => h) (Or.inl ⟨by rfl, ?_⟩) (by assumption) ?_
              rotate_left
              · (intro wz hSw; (try dsimp only at hSw); go_simp; try with_reducible rfl)
              simp only [Act.put, List.getElem_toArray, List.getElem_cons_zero, List.getElem_cons_succ, List.setIfInBounds_toArray, List.set_cons_zero, List.set_cons_succ]
              refine wpAnyH_ready (rs := [4]) (by kernel_rfl) (by simp) ?_
              refine AllReadyH.cons rfl (fun K hK => ?_) ?_
              · have hn10 := below_new w9 (.cells #[.int .i64 (-1), .int .i64 ((d.length : Int) + 1), .int .i64 0] 3)
                replace rr := rowKeep rr hn10
                replace ra := rowKeep ra hn10
                replace o2 := o2.below hn10
                replace hr := hr.below hn10
                replace hF := fr_below hF hn10
                have mr11_0 : (w9.alloc (.cells #[.int .i64 (-1), .int .i64 ((d.length : Int) + 1), .int .i64 0] 3)).cell? ⟨w.heap.size, 0, none⟩ = some (.slice none 0 0) := cell_of_row _ _ 0 _ _ _ rr
                have mr11_1 : (w9.alloc (.cells #[.int .i64 (-1), .int .i64 ((d.length : Int) + 1), .int .i64 0] 3)).cell? ⟨w.heap.size, 1, none⟩ = some (.int .i64 0) := cell_of_row _ _ 1 _ _ _ rr
                have mr11_2 : (w9.alloc (.cells #[.int .i64 (-1), .int .i64 ((d.length : Int) + 1), .int .i64 0] 3)).cell? ⟨w.heap.size, 2, none⟩ = some (.bool false) := cell_of_row _ _ 2 _ _ _ rr
                have mr11_3 : (w9.alloc (.cells #[.int .i64 (-1), .int .i64 ((d.length : Int) + 1), .int .i64 0] 3)).cell? ⟨w.heap.size, 3, none⟩ = some (.int .i64 0) := cell_of_row _ _ 3 _ _ _ rr
                have mr11_4 : (w9.alloc (.cells #[.int .i64 (-1), .int .i64 ((d.length : Int) + 1), .int .i64 0] 3)).cell? ⟨w.heap.size, 4, none⟩ = some (.bool false) := cell_of_row _ _ 4 _ _ _ rr
                have mr11_5 : (w9.alloc (.cells #[.int .i64 (-1), .int .i64 ((d.length : Int) + 1), .int .i64 0] 3)).cell? ⟨w.heap.size, 5, none⟩ = some (.int .i64 0) := cell_of_row _ _ 5 _ _ _ rr
                have ma8_0 : (w9.alloc (.cells #[.int .i64 (-1), .int .i64 ((d.length : Int) + 1), .int .i64 0] 3)).cell? ⟨w3.heap.size, 0, none⟩ = some (.slice A d.length c) := cell_of_row _ _ 0 _ _ _ ra
                have ma8_1 : (w9.alloc (.cells #[.int .i64 (-1), .int .i64 ((d.length : Int) + 1), .int .i64 0] 3)).cell? ⟨w3.heap.size, 1, none⟩ = some (.int .i64 ps) := cell_of_row _ _ 1 _ _ _ ra
                have ma8_2 : (w9.alloc (.cells #[.int .i64 (-1), .int .i64 ((d.length : Int) + 1), .int .i64 0] 3)).cell? ⟨w3.heap.size, 2, none⟩ = some (.bool pp) := cell_of_row _ _ 2 _ _ _ ra
                have ma8_3 : (w9.alloc (.cells #[.int .i64 (-1), .int .i64 ((d.length : Int) + 1), .int .i64 0] 3)).cell? ⟨w3.heap.size, 3, none⟩ = some (.int .i64 tk) := cell_of_row _ _ 3 _ _ _ ra
                have ma8_4 : (w9.alloc (.cells #[.int .i64 (-1), .int .i64 ((d.length : Int) + 1), .int .i64 0] 3)).cell? ⟨w3.heap.size, 4, none⟩ = some (.bool tp) := cell_of_row _ _ 4 _ _ _ ra
                have ma8_5 : (w9.alloc (.cells #[.int .i64 (-1), .int .i64 ((d.length : Int) + 1), .int .i64 0] 3)).cell? ⟨w3.heap.size, 5, none⟩ = some (.int .i64 pd) := cell_of_row _ _ 5 _ _ _ ra
                clear hn10
                have s10 : w9.heap.size < (w9.alloc (.cells #[.int .i64 (-1), .int .i64 ((d.length : Int) + 1), .int .i64 0] 3)).heap.size := Nat.lt_of_lt_of_eq (Nat.lt_succ_self _) (World.size_alloc _ _).symm
                have rl : (w9.alloc (.cells #[.int .i64 (-1), .int .i64 ((d.length : Int) + 1), .int .i64 0] 3)).heap[w9.heap.size]? = some (.cells #[.int .i64 (-1), .int .i64 ((d.length : Int) + 1), .int .i64 0] 3 (0, 0)) := by have q := heap_alloc_new w9 (.cells #[.int .i64 (-1), .int .i64 ((d.length : Int) + 1), .int .i64 0] 3); (try simp only [World.size_alloc, World.size_setCell] at q); exact q
                go_simp
                refine hK.out _ _ trivial (fun hHeld => ?_)
                clear mr10_0 mr10_1 mr10_2 mr10_3 mr10_4 mr10_5 ma7_0 ma7_1 ma7_2 ma7_3 ma7_4 ma7_5
                generalize (w9.alloc (.cells #[.int .i64 (-1), .int .i64 ((d.length : Int) + 1), .int .i64 0] 3)) = u10 at *
                clear hK K
                try simp only [Act.put, List.getElem_toArray, List.getElem_cons_zero, List.getElem_cons_succ, List.setIfInBounds_toArray, List.set_cons_zero, List.set_cons_succ]
                refine wpAnyH_take (i := 7) (v := ?_) rfl (by kernel_rfl) (by kernel_rfl) (by kernel_rfl) (fun _ _ _ h => h) (Or.inl ⟨by rfl, ?_⟩) (by assumption) ?_
                rotate_left
                · (intro wz hSw; (try dsimp only at hSw); go_simp; try with_reducible rfl)
                simp only [Act.put, List.getElem_toArray, List.getElem_cons_zero, List.getElem_cons_succ, List.setIfInBounds_toArray, List.set_cons_zero, List.set_cons_succ]
                refine wpAnyH_ready (rs := [8]) (by kernel_rfl) (by simp) ?_
                refine AllReadyH.cons rfl (fun K hK => ?_) ?_
                · obtain ⟨y, hy, hpk⟩ := pickL (fun x => -1 ≤ x ∧ x ≤ 18) [-1, (d.length : Int) + 1, 0] i3 (by intro z hz; simp only [List.mem_cons, List.not_mem_nil, or_false] at hz; omega) i30 i31
                  have hcw := lit_at rl hpk
                  clear hpk
                  go_simp
                  clear hcw
                  refine hK.out _ _ trivial (fun hHeld => ?_)
                  clear hK K
                  try simp only [Act.put, List.getElem_toArray, List.getElem_cons_zero, List.getElem_cons_succ, List.setIfInBounds_toArray, List.set_cons_zero, List.set_cons_succ]
                  refine wpAnyH_take (i := 9) (v := ?_) rfl (by kernel_rfl) (by kernel_rfl) (by kernel_rfl) (fun _ _ _ h => h) (Or.inl ⟨by rfl, ?_⟩) (by assumption) ?_
                  rotate_left
                  · (intro wz hSw; (try dsimp only at hSw); go_simp; try with_reducible rfl)
                  simp only [Act.put, List.getElem_toArray, List.getElem_cons_zero, List.getElem_cons_succ, List.setIfInBounds_toArray, List.set_cons_zero, List.set_cons_succ]
                  refine wpAnyH_ready (rs := [10]) (by kernel_rfl) (by simp) ?_
                  refine AllReadyH.cons rfl (fun K hK => ?_) ?_
                  · have z11 := frzRow ra 5
                    replace rr := rowSet rr ⟨w3.heap.size, 5, none⟩ (.int .i64 y) (by show _ ≠ w3.heap.size; omega)
                    replace rl := rowSet rl ⟨w3.heap.size, 5, none⟩ (.int .i64 y) (by show _ ≠ w3.heap.size; omega)
                    replace ra : (u10.setCell ⟨w3.heap.size, 5, none⟩ (.int .i64 y)).heap[w3.heap.size]? = some (.cells #[.slice A d.length c, .int .i64 ps, .bool pp, .int .i64 tk, .bool tp, .int .i64 y] 24 (0, 0)) := by rw [heap_setCell_same _ _ 5 _ _ _ ra]; rfl
                    replace o2 := o2.setOther ⟨w3.heap.size, 5, none⟩ (.int .i64 y) (by show w3.heap.size < _ ∨ _ ≤ w3.heap.size; omega)
                    replace hr := rd_setc hr ⟨w3.heap.size, 5, none⟩ (.int .i64 y) (by show _ < w3.heap.size; omega)
                    replace hF := fr_setd hF (p := ⟨w3.heap.size, 5, none⟩) (by show _ ≤ w3.heap.size; omega) (.int .i64 y)
                    have s11 : u10.heap.size ≤ (u10.setCell ⟨w3.heap.size, 5, none⟩ (.int .i64 y)).heap.size := Nat.le_of_eq (World.size_setCell _ _ _).symm
                    have mr12_0 : (u10.setCell ⟨w3.heap.size, 5, none⟩ (.int .i64 y)).cell? ⟨w.heap.size, 0, none⟩ = some (.slice none 0 0) := cell_of_row _ _ 0 _ _ _ rr
                    have mr12_1 : (u10.setCell ⟨w3.heap.size, 5, none⟩ (.int .i64 y)).cell? ⟨w.heap.size, 1, none⟩ = some (.int .i64 0) := cell_of_row _ _ 1 _ _ _ rr
                    have mr12_2 : (u10.setCell ⟨w3.heap.size, 5, none⟩ (.int .i64 y)).cell? ⟨w.heap.size, 2, none⟩ = some (.bool false) := cell_of_row _ _ 2 _ _ _ rr
                    have mr12_3 : (u10.setCell ⟨w3.heap.size, 5, none⟩ (.int .i64 y)).cell? ⟨w.heap.size, 3, none⟩ = some (.int .i64 0) := cell_of_row _ _ 3 _ _ _ rr
                    have mr12_4 : (u10.setCell ⟨w3.heap.size, 5, none⟩ (.int .i64 y)).cell? ⟨w.heap.size, 4, none⟩ = some (.bool false) := cell_of_row _ _ 4 _ _ _ rr
                    have mr12_5 : (u10.setCell ⟨w3.heap.size, 5, none⟩ (.int .i64 y)).cell? ⟨w.heap.size, 5, none⟩ = some (.int .i64 0) := cell_of_row _ _ 5 _ _ _ rr
                    have ma9_0 : (u10.setCell ⟨w3.heap.size, 5, none⟩ (.int .i64 y)).cell? ⟨w3.heap.size, 0, none⟩ = some (.slice A d.length c) := cell_of_row _ _ 0 _ _ _ ra
                    have ma9_1 : (u10.setCell ⟨w3.heap.size, 5, none⟩ (.int .i64 y)).cell? ⟨w3.heap.size, 1, none⟩ = some (.int .i64 ps) := cell_of_row _ _ 1 _ _ _ ra
                    have ma9_2 : (u10.setCell ⟨w3.heap.size, 5, none⟩ (.int .i64 y)).cell? ⟨w3.heap.size, 2, none⟩ = some (.bool pp) := cell_of_row _ _ 2 _ _ _ ra
                    have ma9_3 : (u10.setCell ⟨w3.heap.size, 5, none⟩ (.int .i64 y)).cell? ⟨w3.heap.size, 3, none⟩ = some (.int .i64 tk) := cell_of_row _ _ 3 _ _ _ ra
                    have ma9_4 : (u10.setCell ⟨w3.heap.size, 5, none⟩ (.int .i64 y)).cell? ⟨w3.heap.size, 4, none⟩ = some (.bool tp) := cell_of_row _ _ 4 _ _ _ ra
                    have ma9_5 : (u10.setCell ⟨w3.heap.size, 5, none⟩ (.int .i64 y)).cell? ⟨w3.heap.size, 5, none⟩ = some (.int .i64 y) := cell_of_row _ _ 5 _ _ _ ra
                    go_simp
                    refine hK.out _ _ trivial (fun hHeld => ?_)
                    clear z11 mr11_0 mr11_1 mr11_2 mr11_3 mr11_4 mr11_5 ma8_0 ma8_1 ma8_2 ma8_3 ma8_4 ma8_5
                    generalize (u10.setCell ⟨w3.heap.size, 5, none⟩ (.int .i64 y)) = u11 at *
                    clear hK K
                    try simp only [Act.put, List.getElem_toArray, List.getElem_cons_zero, List.getElem_cons_succ, List.setIfInBounds_toArray, List.set_cons_zero, List.set_cons_succ]
                    refine wpAnyH_done (by kernel_rfl) ?_ _
                    refine NoPanic.normal ?_
                    have z12_0 := frzRow rr 0
                    have z12_1 := frzRow rr 1
                    have z12_2 := frzRow rr 2
                    have z12_3 := frzRow rr 3
                    have z12_4 := frzRow rr 4
                    have z12_5 := frzRow rr 5
                    replace ra := rowSet (rowSet (rowSet (rowSet (rowSet (rowSet (ra) ⟨w.heap.size, 0, none⟩ (.slice A d.length c) (by show _ ≠ w.heap.size; omega)) ⟨w.heap.size, 1, none⟩ (.int .i64 ps) (by show _ ≠ w.heap.size; omega)) ⟨w.heap.size, 2, none⟩ (.bool pp) (by show _ ≠ w.heap.size; omega)) ⟨w.heap.size, 3, none⟩ (.int .i64 tk) (by show _ ≠ w.heap.size; omega)) ⟨w.heap.size, 4, none⟩ (.bool tp) (by show _ ≠ w.heap.size; omega)) ⟨w.heap.size, 5, none⟩ (.int .i64 y) (by show _ ≠ w.heap.size; omega)
                    replace rl := rowSet (rowSet (rowSet (rowSet (rowSet (rowSet (rl) ⟨w.heap.size, 0, none⟩ (.slice A d.length c) (by show _ ≠ w.heap.size; omega)) ⟨w.heap.size, 1, none⟩ (.int .i64 ps) (by show _ ≠ w.heap.size; omega)) ⟨w.heap.size, 2, none⟩ (.bool pp) (by show _ ≠ w.heap.size; omega)) ⟨w.heap.size, 3, none⟩ (.int .i64 tk) (by show _ ≠ w.heap.size; omega)) ⟨w.heap.size, 4, none⟩ (.bool tp) (by show _ ≠ w.heap.size; omega)) ⟨w.heap.size, 5, none⟩ (.int .i64 y) (by show _ ≠ w.heap.size; omega)
                    replace rr := put5 (put4 (put3 (put2 (put1 (put0 (rr) (.slice A d.length c)) (.int .i64 ps)) (.bool pp)) (.int .i64 tk)) (.bool tp)) (.int .i64 y)
                    replace o2 := ((((((o2).setOther ⟨w.heap.size, 0, none⟩ (.slice A d.length c) (by show w.heap.size < _ ∨ _ ≤ w.heap.size; omega)).setOther ⟨w.heap.size, 1, none⟩ (.int .i64 ps) (by show w.heap.size < _ ∨ _ ≤ w.heap.size; omega)).setOther ⟨w.heap.size, 2, none⟩ (.bool pp) (by show w.heap.size < _ ∨ _ ≤ w.heap.size; omega)).setOther ⟨w.heap.size, 3, none⟩ (.int .i64 tk) (by show w.heap.size < _ ∨ _ ≤ w.heap.size; omega)).setOther ⟨w.heap.size, 4, none⟩ (.bool tp) (by show w.heap.size < _ ∨ _ ≤ w.heap.size; omega)).setOther ⟨w.heap.size, 5, none⟩ (.int .i64 y) (by show w.heap.size < _ ∨ _ ≤ w.heap.size; omega)
                    replace hr := rd_setc (rd_setc (rd_setc (rd_setc (rd_setc (rd_setc (hr) ⟨w.heap.size, 0, none⟩ (.slice A d.length c) (by show _ < w.heap.size; omega)) ⟨w.heap.size, 1, none⟩ (.int .i64 ps) (by show _ < w.heap.size; omega)) ⟨w.heap.size, 2, none⟩ (.bool pp) (by show _ < w.heap.size; omega)) ⟨w.heap.size, 3, none⟩ (.int .i64 tk) (by show _ < w.heap.size; omega)) ⟨w.heap.size, 4, none⟩ (.bool tp) (by show _ < w.heap.size; omega)) ⟨w.heap.size, 5, none⟩ (.int .i64 y) (by show _ < w.heap.size; omega)
                    replace hF := fr_setd (fr_setd (fr_setd (fr_setd (fr_setd (fr_setd (hF) (p := ⟨w.heap.size, 0, none⟩) (by show _ ≤ w.heap.size; omega) (.slice A d.length c)) (p := ⟨w.heap.size, 1, none⟩) (by show _ ≤ w.heap.size; omega) (.int .i64 ps)) (p := ⟨w.heap.size, 2, none⟩) (by show _ ≤ w.heap.size; omega) (.bool pp)) (p := ⟨w.heap.size, 3, none⟩) (by show _ ≤ w.heap.size; omega) (.int .i64 tk)) (p := ⟨w.heap.size, 4, none⟩) (by show _ ≤ w.heap.size; omega) (.bool tp)) (p := ⟨w.heap.size, 5, none⟩) (by show _ ≤ w.heap.size; omega) (.int .i64 y)
                    have s12 : u11.heap.size ≤ ((((((u11.setCell ⟨w.heap.size, 0, none⟩ (.slice A d.length c)).setCell ⟨w.heap.size, 1, none⟩ (.int .i64 ps)).setCell ⟨w.heap.size, 2, none⟩ (.bool pp)).setCell ⟨w.heap.size, 3, none⟩ (.int .i64 tk)).setCell ⟨w.heap.size, 4, none⟩ (.bool tp)).setCell ⟨w.heap.size, 5, none⟩ (.int .i64 y)).heap.size := by simp only [World.size_setCell]; exact Nat.le_refl _
                    have mr13_0 : ((((((u11.setCell ⟨w.heap.size, 0, none⟩ (.slice A d.length c)).setCell ⟨w.heap.size, 1, none⟩ (.int .i64 ps)).setCell ⟨w.heap.size, 2, none⟩ (.bool pp)).setCell ⟨w.heap.size, 3, none⟩ (.int .i64 tk)).setCell ⟨w.heap.size, 4, none⟩ (.bool tp)).setCell ⟨w.heap.size, 5, none⟩ (.int .i64 y)).cell? ⟨w.heap.size, 0, none⟩ = some (.slice A d.length c) := cell_of_row _ _ 0 _ _ _ rr
                    have mr13_1 : ((((((u11.setCell ⟨w.heap.size, 0, none⟩ (.slice A d.length c)).setCell ⟨w.heap.size, 1, none⟩ (.int .i64 ps)).setCell ⟨w.heap.size, 2, none⟩ (.bool pp)).setCell ⟨w.heap.size, 3, none⟩ (.int .i64 tk)).setCell ⟨w.heap.size, 4, none⟩ (.bool tp)).setCell ⟨w.heap.size, 5, none⟩ (.int .i64 y)).cell? ⟨w.heap.size, 1, none⟩ = some (.int .i64 ps) := cell_of_row _ _ 1 _ _ _ rr
                    have mr13_2 : ((((((u11.setCell ⟨w.heap.size, 0, none⟩ (.slice A d.length c)).setCell ⟨w.heap.size, 1, none⟩ (.int .i64 ps)).setCell ⟨w.heap.size, 2, none⟩ (.bool pp)).setCell ⟨w.heap.size, 3, none⟩ (.int .i64 tk)).setCell ⟨w.heap.size, 4, none⟩ (.bool tp)).setCell ⟨w.heap.size, 5, none⟩ (.int .i64 y)).cell? ⟨w.heap.size, 2, none⟩ = some (.bool pp) := cell_of_row _ _ 2 _ _ _ rr
                    have mr13_3 : ((((((u11.setCell ⟨w.heap.size, 0, none⟩ (.slice A d.length c)).setCell ⟨w.heap.size, 1, none⟩ (.int .i64 ps)).setCell ⟨w.heap.size, 2, none⟩ (.bool pp)).setCell ⟨w.heap.size, 3, none⟩ (.int .i64 tk)).setCell ⟨w.heap.size, 4, none⟩ (.bool tp)).setCell ⟨w.heap.size, 5, none⟩ (.int .i64 y)).cell? ⟨w.heap.size, 3, none⟩ = some (.int .i64 tk) := cell_of_row _ _ 3 _ _ _ rr
                    have mr13_4 : ((((((u11.setCell ⟨w.heap.size, 0, none⟩ (.slice A d.length c)).setCell ⟨w.heap.size, 1, none⟩ (.int .i64 ps)).setCell ⟨w.heap.size, 2, none⟩ (.bool pp)).setCell ⟨w.heap.size, 3, none⟩ (.int .i64 tk)).setCell ⟨w.heap.size, 4, none⟩ (.bool tp)).setCell ⟨w.heap.size, 5, none⟩ (.int .i64 y)).cell? ⟨w.heap.size, 4, none⟩ = some (.bool tp) := cell_of_row _ _ 4 _ _ _ rr
                    have mr13_5 : ((((((u11.setCell ⟨w.heap.size, 0, none⟩ (.slice A d.length c)).setCell ⟨w.heap.size, 1, none⟩ (.int .i64 ps)).setCell ⟨w.heap.size, 2, none⟩ (.bool pp)).setCell ⟨w.heap.size, 3, none⟩ (.int .i64 tk)).setCell ⟨w.heap.size, 4, none⟩ (.bool tp)).setCell ⟨w.heap.size, 5, none⟩ (.int .i64 y)).cell? ⟨w.heap.size, 5, none⟩ = some (.int .i64 y) := cell_of_row _ _ 5 _ _ _ rr
                    have ma10_0 : ((((((u11.setCell ⟨w.heap.size, 0, none⟩ (.slice A d.length c)).setCell ⟨w.heap.size, 1, none⟩ (.int .i64 ps)).setCell ⟨w.heap.size, 2, none⟩ (.bool pp)).setCell ⟨w.heap.size, 3, none⟩ (.int .i64 tk)).setCell ⟨w.heap.size, 4, none⟩ (.bool tp)).setCell ⟨w.heap.size, 5, none⟩ (.int .i64 y)).cell? ⟨w3.heap.size, 0, none⟩ = some (.slice A d.length c) := cell_of_row _ _ 0 _ _ _ ra
                    have ma10_1 : ((((((u11.setCell ⟨w.heap.size, 0, none⟩ (.slice A d.length c)).setCell ⟨w.heap.size, 1, none⟩ (.int .i64 ps)).setCell ⟨w.heap.size, 2, none⟩ (.bool pp)).setCell ⟨w.heap.size, 3, none⟩ (.int .i64 tk)).setCell ⟨w.heap.size, 4, none⟩ (.bool tp)).setCell ⟨w.heap.size, 5, none⟩ (.int .i64 y)).cell? ⟨w3.heap.size, 1, none⟩ = some (.int .i64 ps) := cell_of_row _ _ 1 _ _ _ ra
                    have ma10_2 : ((((((u11.setCell ⟨w.heap.size, 0, none⟩ (.slice A d.length c)).setCell ⟨w.heap.size, 1, none⟩ (.int .i64 ps)).setCell ⟨w.heap.size, 2, none⟩ (.bool pp)).setCell ⟨w.heap.size, 3, none⟩ (.int .i64 tk)).setCell ⟨w.heap.size, 4, none⟩ (.bool tp)).setCell ⟨w.heap.size, 5, none⟩ (.int .i64 y)).cell? ⟨w3.heap.size, 2, none⟩ = some (.bool pp) := cell_of_row _ _ 2 _ _ _ ra
                    have ma10_3 : ((((((u11.setCell ⟨w.heap.size, 0, none⟩ (.slice A d.length c)).setCell ⟨w.heap.size, 1, none⟩ (.int .i64 ps)).setCell ⟨w.heap.size, 2, none⟩ (.bool pp)).setCell ⟨w.heap.size, 3, none⟩ (.int .i64 tk)).setCell ⟨w.heap.size, 4, none⟩ (.bool tp)).setCell ⟨w.heap.size, 5, none⟩ (.int .i64 y)).cell? ⟨w3.heap.size, 3, none⟩ = some (.int .i64 tk) := cell_of_row _ _ 3 _ _ _ ra
                    have ma10_4 : ((((((u11.setCell ⟨w.heap.size, 0, none⟩ (.slice A d.length c)).setCell ⟨w.heap.size, 1, none⟩ (.int .i64 ps)).setCell ⟨w.heap.size, 2, none⟩ (.bool pp)).setCell ⟨w.heap.size, 3, none⟩ (.int .i64 tk)).setCell ⟨w.heap.size, 4, none⟩ (.bool tp)).setCell ⟨w.heap.size, 5, none⟩ (.int .i64 y)).cell? ⟨w3.heap.size, 4, none⟩ = some (.bool tp) := cell_of_row _ _ 4 _ _ _ ra
                    have ma10_5 : ((((((u11.setCell ⟨w.heap.size, 0, none⟩ (.slice A d.length c)).setCell ⟨w.heap.size, 1, none⟩ (.int .i64 ps)).setCell ⟨w.heap.size, 2, none⟩ (.bool pp)).setCell ⟨w.heap.size, 3, none⟩ (.int .i64 tk)).setCell ⟨w.heap.size, 4, none⟩ (.bool tp)).setCell ⟨w.heap.size, 5, none⟩ (.int .i64 y)).cell? ⟨w3.heap.size, 5, none⟩ = some (.int .i64 y) := cell_of_row _ _ 5 _ _ _ ra
                    go_wp2_with fail
                    refine bodyPost_ret (v := .agg #[.slice A d.length c, .int .i64 ps, .bool pp, .int .i64 tk, .bool tp, .int .i64 y]) (by simp only [results, Try.results42]; simp [go_sem, mr13_0, mr13_1, mr13_2, mr13_3, mr13_4, mr13_5]) rfl ?_
                    exact ⟨_, _, d, ps, pp, tk, tp, y, ((q4 + 1) + 1), rfl, ⟨o2.wide (by omega) (by omega), by omega⟩, by omega, hr, hF⟩
                  exact AllReadyH.nil
                exact AllReadyH.nil
              exact AllReadyH.nil
            exact AllReadyH.nil
          exact AllReadyH.nil
        · go_wp2_with fail
          refine (pick_any (R) ((q4 + 1)) ((d.length : Int)) _ hr (by omega)).mono ?_
          rintro e w8 ⟨i1, rfl, h8, q8, f8, e8⟩
          have s8 := f8.size
          clear hr
          have hr := q8
          clear q8
          clear mr8_0 mr8_1 mr8_2 mr8_3 mr8_4 mr8_5
          clear ma5_0 ma5_1 ma5_2 ma5_3 ma5_4 ma5_5
          replace rr := rowFr rr f8 (by omega)
          replace ra := rowFr ra f8 (by omega)
          replace o2 := o2.fr f8 (by omega)
          replace hF := hF.trans f8
          have mr9_0 : w8.cell? ⟨w.heap.size, 0, none⟩ = some (.slice none 0 0) := cell_of_row _ _ 0 _ _ _ rr
          have mr9_1 : w8.cell? ⟨w.heap.size, 1, none⟩ = some (.int .i64 0) := cell_of_row _ _ 1 _ _ _ rr
          have mr9_2 : w8.cell? ⟨w.heap.size, 2, none⟩ = some (.bool false) := cell_of_row _ _ 2 _ _ _ rr
          have mr9_3 : w8.cell? ⟨w.heap.size, 3, none⟩ = some (.int .i64 0) := cell_of_row _ _ 3 _ _ _ rr
          have mr9_4 : w8.cell? ⟨w.heap.size, 4, none⟩ = some (.bool false) := cell_of_row _ _ 4 _ _ _ rr
          have mr9_5 : w8.cell? ⟨w.heap.size, 5, none⟩ = some (.int .i64 0) := cell_of_row _ _ 5 _ _ _ rr
          have ma6_0 : w8.cell? ⟨w3.heap.size, 0, none⟩ = some (.slice A d.length c) := cell_of_row _ _ 0 _ _ _ ra
          have ma6_1 : w8.cell? ⟨w3.heap.size, 1, none⟩ = some (.int .i64 ps) := cell_of_row _ _ 1 _ _ _ ra
          have ma6_2 : w8.cell? ⟨w3.heap.size, 2, none⟩ = some (.bool pp) := cell_of_row _ _ 2 _ _ _ ra
          have ma6_3 : w8.cell? ⟨w3.heap.size, 3, none⟩ = some (.int .i64 tk) := cell_of_row _ _ 3 _ _ _ ra
          have ma6_4 : w8.cell? ⟨w3.heap.size, 4, none⟩ = some (.bool tp) := cell_of_row _ _ 4 _ _ _ ra
          have ma6_5 : w8.cell? ⟨w3.heap.size, 5, none⟩ = some (.int .i64 pd) := cell_of_row _ _ 5 _ _ _ ra
          clear f8
          obtain ⟨i10, i11⟩ : 0 ≤ i1 ∧ i1 < (d.length : Int) := by omega
          clear h8 e8
          obtain ⟨t, rfl⟩ := Int.eq_ofNat_of_zero_le i10
          have ht : t < d.length := by omega
          obtain ⟨xv, xp, hdt⟩ : ∃ xv xp, d[t] = (xv, xp) := ⟨_, _, rfl⟩
          have HDT := Lib.hid hdt
          clear hdt
          obtain ⟨g2, hA, hg1, hg2, hg3⟩ := o2.head (by omega)
          subst hA
          go_upto_region 15 with fail
          have j1 : (0 : Int) ≤ (t : Int) := by omega
          have j2 : (t : Int) < (d.length : Int) := by omega
          have hn9 : Below w8.heap.size w8 w8.drew := below_drewN (Below.refl _ _) 1
          have s9 : w8.heap.size ≤ w8.drew.heap.size := Nat.le_refl _
          clear mr9_0 mr9_1 mr9_2 mr9_3 mr9_4 mr9_5
          clear ma6_0 ma6_1 ma6_2 ma6_3 ma6_4 ma6_5
          replace rr := rowKeep rr hn9
          replace ra := rowKeep ra hn9
          replace o2 := o2.below hn9
          replace hr := hr.below hn9
          replace hF := fr_below hF hn9
          have mr10_0 : w8.drew.cell? ⟨w.heap.size, 0, none⟩ = some (.slice none 0 0) := cell_of_row _ _ 0 _ _ _ rr
          have mr10_1 : w8.drew.cell? ⟨w.heap.size, 1, none⟩ = some (.int .i64 0) := cell_of_row _ _ 1 _ _ _ rr
          have mr10_2 : w8.drew.cell? ⟨w.heap.size, 2, none⟩ = some (.bool false) := cell_of_row _ _ 2 _ _ _ rr
          have mr10_3 : w8.drew.cell? ⟨w.heap.size, 3, none⟩ = some (.int .i64 0) := cell_of_row _ _ 3 _ _ _ rr
          have mr10_4 : w8.drew.cell? ⟨w.heap.size, 4, none⟩ = some (.bool false) := cell_of_row _ _ 4 _ _ _ rr
          have mr10_5 : w8.drew.cell? ⟨w.heap.size, 5, none⟩ = some (.int .i64 0) := cell_of_row _ _ 5 _ _ _ rr
          have ma7_0 : w8.drew.cell? ⟨w3.heap.size, 0, none⟩ = some (.slice (some ⟨g2, 0, none⟩) d.length c) := cell_of_row _ _ 0 _ _ _ ra
          have ma7_1 : w8.drew.cell? ⟨w3.heap.size, 1, none⟩ = some (.int .i64 ps) := cell_of_row _ _ 1 _ _ _ ra
          have ma7_2 : w8.drew.cell? ⟨w3.heap.size, 2, none⟩ = some (.bool pp) := cell_of_row _ _ 2 _ _ _ ra
          have ma7_3 : w8.drew.cell? ⟨w3.heap.size, 3, none⟩ = some (.int .i64 tk) := cell_of_row _ _ 3 _ _ _ ra
          have ma7_4 : w8.drew.cell? ⟨w3.heap.size, 4, none⟩ = some (.bool tp) := cell_of_row _ _ 4 _ _ _ ra
          have ma7_5 : w8.drew.cell? ⟨w3.heap.size, 5, none⟩ = some (.int .i64 pd) := cell_of_row _ _ 5 _ _ _ ra
          clear hn9
          refine wp_region_noPanic ?_
          refine wp_region_held_drew (S := fun w' => True) (by kernel_rfl) trivial (fun hHeld => ?_)
          generalize w8.drew = u9 at *
          refine wpAnyH_take (i := 0) (v := ?_) rfl (by kernel_rfl) (by kernel_rfl) (by kernel_rfl) (fun _ _ _ h => h) (Or.inl ⟨by rfl, ?_⟩) (by assumption) ?_
          rotate_left
          · (intro wz hSw; (try dsimp only at hSw); go_simp; try with_reducible rfl)
          simp only [Act.put, List.getElem_toArray, List.getElem_cons_zero, List.getElem_cons_succ, List.setIfInBounds_toArray, List.set_cons_zero, List.set_cons_succ]
          refine wpAnyH_take (i := 2) (v := ?_) rfl (by kernel_rfl) (by kernel_rfl) (by kernel_rfl) (fun _ _ _ h => h) (Or.inl ⟨by rfl, ?_⟩) (by assumption) ?_
          rotate_left
          · (intro wz hSw; (try dsimp only at hSw); go_simp; try with_reducible rfl)
          simp only [Act.put, List.getElem_toArray, List.getElem_cons_zero, List.getElem_cons_succ, List.setIfInBounds_toArray, List.set_cons_zero, List.set_cons_succ]
          refine wpAnyH_take (i := 3) (v := ?_) rfl (by kernel_rfl) (by kernel_rfl) (by kernel_rfl) (fun _ _ _ h => h) (Or.inl ⟨by rfl, ?_⟩) (by assumption) ?_
          rotate_left
          · (intro wz hSw; (try dsimp only at hSw); go_simp; try with_reducible rfl)
          simp only [Act.put, List.getElem_toArray, List.getElem_cons_zero, List.getElem_cons_succ, List.setIfInBounds_toArray, List.set_cons_zero, List.set_cons_succ]
          refine wpAnyH_take (i := 5) (v := ?_) rfl (by kernel_rfl) (by kernel_rfl) (by kernel_rfl) (fun _ _ _ h => h) (Or.inl ⟨by rfl, ?_⟩) (by assumption) ?_
          rotate_left
          · (intro wz hSw; (try dsimp only at hSw); go_simp; try with_reducible rfl)
          simp only [Act.put, List.getElem_toArray, List.getElem_cons_zero, List.getElem_cons_succ, List.setIfInBounds_toArray, List.set_cons_zero, List.set_cons_succ]
          refine wpAnyH_ready (rs := [1, 4]) (by kernel_rfl) (by simp) ?_
          refine AllReadyH.cons rfl (fun K hK => ?_) ?_
          · go_simp
            refine hK.out _ _ trivial (fun hHeld => ?_)
            clear hK K
            try simp only [Act.put, List.getElem_toArray, List.getElem_cons_zero, List.getElem_cons_succ, List.setIfInBounds_toArray, List.set_cons_zero, List.set_cons_succ]
            refine wpAnyH_ready (rs := [4]) (by kernel_rfl) (by simp) ?_
            refine AllReadyH.cons rfl (fun K hK => ?_) ?_
            · go_simp
              refine hK.out _ _ trivial (fun hHeld => ?_)
              clear hK K
              try simp only [Act.put, List.getElem_toArray, List.getElem_cons_zero, List.getElem_cons_succ, List.setIfInBounds_toArray, List.set_cons_zero, List.set_cons_succ]
              refine wpAnyH_take (i := 6) (v := ?_) rfl (by kernel_rfl) (by kernel_rfl) (by kernel_rfl) (fun _ _ _ h => h) (Or.inl ⟨by rfl, ?_⟩) (by assumption) ?_
              rotate_left
              · (intro wz hSw; (try dsimp only at hSw); go_simp; try with_reducible rfl)
              simp only [Act.put, List.getElem_toArray, List.getElem_cons_zero, List.getElem_cons_succ, List.setIfInBounds_toArray, List.set_cons_zero, List.set_cons_succ]
              refine wpAnyH_take (i := 7) (v := ?_) rfl (by kernel_rfl) (by kernel_rfl) (by kernel_rfl) (fun _ _ _ h => h) (Or.inl ⟨by rfl, ?_⟩) (by assumption) ?_
              rotate_left
              · (intro wz hSw; (try dsimp only at hSw); go_simp; try with_reducible rfl)
              simp only [Act.put, List.getElem_toArray, List.getElem_cons_zero, List.getElem_cons_succ, List.setIfInBounds_toArray, List.set_cons_zero, List.set_cons_succ]
              refine wpAnyH_ready (rs := [8]) (by kernel_rfl) (by simp) ?_
              refine AllReadyH.cons rfl (fun K hK => ?_) ?_
              · have hx1 := (o2.sees.ans_c t ht).2
                rw [HDT.out] at hx1
                simp only [Nat.zero_add] at hx1
                go_simp
                clear hx1
                refine hK.out _ _ trivial (fun hHeld => ?_)
                clear hK K
                try simp only [Act.put, List.getElem_toArray, List.getElem_cons_zero, List.getElem_cons_succ, List.setIfInBounds_toArray, List.set_cons_zero, List.set_cons_succ]
                refine wpAnyH_take (i := 9) (v := ?_) rfl (by kernel_rfl) (by kernel_rfl) (by kernel_rfl) (fun _ _ _ h => h) (Or.inl ⟨by rfl, ?_⟩) (by assumption) ?_
                rotate_left
                · (intro wz hSw; (try dsimp only at hSw); go_simp; try with_reducible rfl)
                simp only [Act.put, List.getElem_toArray, List.getElem_cons_zero, List.getElem_cons_succ, List.setIfInBounds_toArray, List.set_cons_zero, List.set_cons_succ]
                refine wpAnyH_take (i := 10) (v := ?_) rfl (by kernel_rfl) (by kernel_rfl) (by kernel_rfl) (fun _ _ _ h => h) (Or.inl ⟨by rfl, ?_⟩) (by assumption) ?_
                rotate_left
                · (intro wz hSw; (try dsimp only at hSw); go_simp; try with_reducible rfl)
                simp only [Act.put, List.getElem_toArray, List.getElem_cons_zero, List.getElem_cons_succ, List.setIfInBounds_toArray, List.set_cons_zero, List.set_cons_succ]
                refine wpAnyH_take (i := 11) (v := ?_) rfl (by kernel_rfl) (by kernel_rfl) (by kernel_rfl) (fun _ _ _ h => h) (Or.inl ⟨by rfl, ?_⟩) (by assumption) ?_
                rotate_left
                · (intro wz hSw; (try dsimp only at hSw); go_simp; try with_reducible rfl)
                simp only [Act.put, List.getElem_toArray, List.getElem_cons_zero, List.getElem_cons_succ, List.setIfInBounds_toArray, List.set_cons_zero, List.set_cons_succ]
                refine wpAnyH_ready (rs := [12]) (by kernel_rfl) (by simp) ?_
                refine AllReadyH.cons rfl (fun K hK => ?_) ?_
                · have hxl : (ansC d).length = d.length * 2 := ansC_length d
                  have hx1 := (o2.sees.ans_c t ht).2
                  rw [HDT.out] at hx1
                  simp only [Nat.zero_add] at hx1
                  have z1 := o2.frozen rfl (t * 2 + 1)
                  replace rr := rowSet rr ⟨g2, t * 2 + 1, none⟩ (.bool (!xp)) (by show _ ≠ g2; omega)
                  replace ra := rowSet ra ⟨g2, t * 2 + 1, none⟩ (.bool (!xp)) (by show _ ≠ g2; omega)
                  replace o2 := o2.set rfl (t * 2 + 1) (.bool (!xp))
                  replace hr := rd_setc hr ⟨g2, t * 2 + 1, none⟩ (.bool (!xp)) (by show _ < g2; omega)
                  replace hF := fr_setd hF (p := ⟨g2, t * 2 + 1, none⟩) (by show _ ≤ g2; omega) (.bool (!xp))
                  have s10 : u9.heap.size ≤ (u9.setCell ⟨g2, t * 2 + 1, none⟩ (.bool (!xp))).heap.size := Nat.le_of_eq (World.size_setCell _ _ _).symm
                  have mr11_0 : (u9.setCell ⟨g2, t * 2 + 1, none⟩ (.bool (!xp))).cell? ⟨w.heap.size, 0, none⟩ = some (.slice none 0 0) := cell_of_row _ _ 0 _ _ _ rr
                  have mr11_1 : (u9.setCell ⟨g2, t * 2 + 1, none⟩ (.bool (!xp))).cell? ⟨w.heap.size, 1, none⟩ = some (.int .i64 0) := cell_of_row _ _ 1 _ _ _ rr
                  have mr11_2 : (u9.setCell ⟨g2, t * 2 + 1, none⟩ (.bool (!xp))).cell? ⟨w.heap.size, 2, none⟩ = some (.bool false) := cell_of_row _ _ 2 _ _ _ rr
                  have mr11_3 : (u9.setCell ⟨g2, t * 2 + 1, none⟩ (.bool (!xp))).cell? ⟨w.heap.size, 3, none⟩ = some (.int .i64 0) := cell_of_row _ _ 3 _ _ _ rr
                  have mr11_4 : (u9.setCell ⟨g2, t * 2 + 1, none⟩ (.bool (!xp))).cell? ⟨w.heap.size, 4, none⟩ = some (.bool false) := cell_of_row _ _ 4 _ _ _ rr
                  have mr11_5 : (u9.setCell ⟨g2, t * 2 + 1, none⟩ (.bool (!xp))).cell? ⟨w.heap.size, 5, none⟩ = some (.int .i64 0) := cell_of_row _ _ 5 _ _ _ rr
                  have ma8_0 : (u9.setCell ⟨g2, t * 2 + 1, none⟩ (.bool (!xp))).cell? ⟨w3.heap.size, 0, none⟩ = some (.slice (some ⟨g2, 0, none⟩) d.length c) := cell_of_row _ _ 0 _ _ _ ra
                  have ma8_1 : (u9.setCell ⟨g2, t * 2 + 1, none⟩ (.bool (!xp))).cell? ⟨w3.heap.size, 1, none⟩ = some (.int .i64 ps) := cell_of_row _ _ 1 _ _ _ ra
                  have ma8_2 : (u9.setCell ⟨g2, t * 2 + 1, none⟩ (.bool (!xp))).cell? ⟨w3.heap.size, 2, none⟩ = some (.bool pp) := cell_of_row _ _ 2 _ _ _ ra
                  have ma8_3 : (u9.setCell ⟨g2, t * 2 + 1, none⟩ (.bool (!xp))).cell? ⟨w3.heap.size, 3, none⟩ = some (.int .i64 tk) := cell_of_row _ _ 3 _ _ _ ra
                  have ma8_4 : (u9.setCell ⟨g2, t * 2 + 1, none⟩ (.bool (!xp))).cell? ⟨w3.heap.size, 4, none⟩ = some (.bool tp) := cell_of_row _ _ 4 _ _ _ ra
                  have ma8_5 : (u9.setCell ⟨g2, t * 2 + 1, none⟩ (.bool (!xp))).cell? ⟨w3.heap.size, 5, none⟩ = some (.int .i64 pd) := cell_of_row _ _ 5 _ _ _ ra
                  rw [ansC_flip d t ht xv xp HDT.out] at o2
                  go_simp
                  refine hK.out _ _ trivial (fun hHeld => ?_)
                  clear z1 hx1 mr10_0 mr10_1 mr10_2 mr10_3 mr10_4 mr10_5 ma7_0 ma7_1 ma7_2 ma7_3 ma7_4 ma7_5
                  generalize (u9.setCell ⟨g2, t * 2 + 1, none⟩ (.bool (!xp))) = u10 at *
                  clear hK K
                  try simp only [Act.put, List.getElem_toArray, List.getElem_cons_zero, List.getElem_cons_succ, List.setIfInBounds_toArray, List.set_cons_zero, List.set_cons_succ]
                  refine wpAnyH_done (by kernel_rfl) ?_ _
                  refine NoPanic.normal ?_
                  have hl3 : (d.set t (xv, !xp)).length = d.length := List.length_set
                  generalize d.set t (xv, !xp) = d3 at *
                  replace hl3 := Lib.hid hl3
                  have z11_0 := frzRow rr 0
                  have z11_1 := frzRow rr 1
                  have z11_2 := frzRow rr 2
                  have z11_3 := frzRow rr 3
                  have z11_4 := frzRow rr 4
                  have z11_5 := frzRow rr 5
                  replace ra := rowSet (rowSet (rowSet (rowSet (rowSet (rowSet (ra) ⟨w.heap.size, 0, none⟩ (.slice (some ⟨g2, 0, none⟩) d.length c) (by show _ ≠ w.heap.size; omega)) ⟨w.heap.size, 1, none⟩ (.int .i64 ps) (by show _ ≠ w.heap.size; omega)) ⟨w.heap.size, 2, none⟩ (.bool pp) (by show _ ≠ w.heap.size; omega)) ⟨w.heap.size, 3, none⟩ (.int .i64 tk) (by show _ ≠ w.heap.size; omega)) ⟨w.heap.size, 4, none⟩ (.bool tp) (by show _ ≠ w.heap.size; omega)) ⟨w.heap.size, 5, none⟩ (.int .i64 pd) (by show _ ≠ w.heap.size; omega)
                  replace rr := put5 (put4 (put3 (put2 (put1 (put0 (rr) (.slice (some ⟨g2, 0, none⟩) d.length c)) (.int .i64 ps)) (.bool pp)) (.int .i64 tk)) (.bool tp)) (.int .i64 pd)
                  replace o2 := ((((((o2).setOther ⟨w.heap.size, 0, none⟩ (.slice (some ⟨g2, 0, none⟩) d.length c) (by show w.heap.size < _ ∨ _ ≤ w.heap.size; omega)).setOther ⟨w.heap.size, 1, none⟩ (.int .i64 ps) (by show w.heap.size < _ ∨ _ ≤ w.heap.size; omega)).setOther ⟨w.heap.size, 2, none⟩ (.bool pp) (by show w.heap.size < _ ∨ _ ≤ w.heap.size; omega)).setOther ⟨w.heap.size, 3, none⟩ (.int .i64 tk) (by show w.heap.size < _ ∨ _ ≤ w.heap.size; omega)).setOther ⟨w.heap.size, 4, none⟩ (.bool tp) (by show w.heap.size < _ ∨ _ ≤ w.heap.size; omega)).setOther ⟨w.heap.size, 5, none⟩ (.int .i64 pd) (by show w.heap.size < _ ∨ _ ≤ w.heap.size; omega)
                  replace hr := rd_setc (rd_setc (rd_setc (rd_setc (rd_setc (rd_setc (hr) ⟨w.heap.size, 0, none⟩ (.slice (some ⟨g2, 0, none⟩) d.length c) (by show _ < w.heap.size; omega)) ⟨w.heap.size, 1, none⟩ (.int .i64 ps) (by show _ < w.heap.size; omega)) ⟨w.heap.size, 2, none⟩ (.bool pp) (by show _ < w.heap.size; omega)) ⟨w.heap.size, 3, none⟩ (.int .i64 tk) (by show _ < w.heap.size; omega)) ⟨w.heap.size, 4, none⟩ (.bool tp) (by show _ < w.heap.size; omega)) ⟨w.heap.size, 5, none⟩ (.int .i64 pd) (by show _ < w.heap.size; omega)
                  replace hF := fr_setd (fr_setd (fr_setd (fr_setd (fr_setd (fr_setd (hF) (p := ⟨w.heap.size, 0, none⟩) (by show _ ≤ w.heap.size; omega) (.slice (some ⟨g2, 0, none⟩) d.length c)) (p := ⟨w.heap.size, 1, none⟩) (by show _ ≤ w.heap.size; omega) (.int .i64 ps)) (p := ⟨w.heap.size, 2, none⟩) (by show _ ≤ w.heap.size; omega) (.bool pp)) (p := ⟨w.heap.size, 3, none⟩) (by show _ ≤ w.heap.size; omega) (.int .i64 tk)) (p := ⟨w.heap.size, 4, none⟩) (by show _ ≤ w.heap.size; omega) (.bool tp)) (p := ⟨w.heap.size, 5, none⟩) (by show _ ≤ w.heap.size; omega) (.int .i64 pd)
                  have s11 : u10.heap.size ≤ ((((((u10.setCell ⟨w.heap.size, 0, none⟩ (.slice (some ⟨g2, 0, none⟩) d.length c)).setCell ⟨w.heap.size, 1, none⟩ (.int .i64 ps)).setCell ⟨w.heap.size, 2, none⟩ (.bool pp)).setCell ⟨w.heap.size, 3, none⟩ (.int .i64 tk)).setCell ⟨w.heap.size, 4, none⟩ (.bool tp)).setCell ⟨w.heap.size, 5, none⟩ (.int .i64 pd)).heap.size := by simp only [World.size_setCell]; exact Nat.le_refl _
                  have mr12_0 : ((((((u10.setCell ⟨w.heap.size, 0, none⟩ (.slice (some ⟨g2, 0, none⟩) d.length c)).setCell ⟨w.heap.size, 1, none⟩ (.int .i64 ps)).setCell ⟨w.heap.size, 2, none⟩ (.bool pp)).setCell ⟨w.heap.size, 3, none⟩ (.int .i64 tk)).setCell ⟨w.heap.size, 4, none⟩ (.bool tp)).setCell ⟨w.heap.size, 5, none⟩ (.int .i64 pd)).cell? ⟨w.heap.size, 0, none⟩ = some (.slice (some ⟨g2, 0, none⟩) d.length c) := cell_of_row _ _ 0 _ _ _ rr
                  have mr12_1 : ((((((u10.setCell ⟨w.heap.size, 0, none⟩ (.slice (some ⟨g2, 0, none⟩) d.length c)).setCell ⟨w.heap.size, 1, none⟩ (.int .i64 ps)).setCell ⟨w.heap.size, 2, none⟩ (.bool pp)).setCell ⟨w.heap.size, 3, none⟩ (.int .i64 tk)).setCell ⟨w.heap.size, 4, none⟩ (.bool tp)).setCell ⟨w.heap.size, 5, none⟩ (.int .i64 pd)).cell? ⟨w.heap.size, 1, none⟩ = some (.int .i64 ps) := cell_of_row _ _ 1 _ _ _ rr
                  have mr12_2 : ((((((u10.setCell ⟨w.heap.size, 0, none⟩ (.slice (some ⟨g2, 0, none⟩) d.length c)).setCell ⟨w.heap.size, 1, none⟩ (.int .i64 ps)).setCell ⟨w.heap.size, 2, none⟩ (.bool pp)).setCell ⟨w.heap.size, 3, none⟩ (.int .i64 tk)).setCell ⟨w.heap.size, 4, none⟩ (.bool tp)).setCell ⟨w.heap.size, 5, none⟩ (.int .i64 pd)).cell? ⟨w.heap.size, 2, none⟩ = some (.bool pp) := cell_of_row _ _ 2 _ _ _ rr
                  have mr12_3 : ((((((u10.setCell ⟨w.heap.size, 0, none⟩ (.slice (some ⟨g2, 0, none⟩) d.length c)).setCell ⟨w.heap.size, 1, none⟩ (.int .i64 ps)).setCell ⟨w.heap.size, 2, none⟩ (.bool pp)).setCell ⟨w.heap.size, 3, none⟩ (.int .i64 tk)).setCell ⟨w.heap.size, 4, none⟩ (.bool tp)).setCell ⟨w.heap.size, 5, none⟩ (.int .i64 pd)).cell? ⟨w.heap.size, 3, none⟩ = some (.int .i64 tk) := cell_of_row _ _ 3 _ _ _ rr
                  have mr12_4 : ((((((u10.setCell ⟨w.heap.size, 0, none⟩ (.slice (some ⟨g2, 0, none⟩) d.length c)).setCell ⟨w.heap.size, 1, none⟩ (.int .i64 ps)).setCell ⟨w.heap.size, 2, none⟩ (.bool pp)).setCell ⟨w.heap.size, 3, none⟩ (.int .i64 tk)).setCell ⟨w.heap.size, 4, none⟩ (.bool tp)).setCell ⟨w.heap.size, 5, none⟩ (.int .i64 pd)).cell? ⟨w.heap.size, 4, none⟩ = some (.bool tp) := cell_of_row _ _ 4 _ _ _ rr
                  have mr12_5 : ((((((u10.setCell ⟨w.heap.size, 0, none⟩ (.slice (some ⟨g2, 0, none⟩) d.length c)).setCell ⟨w.heap.size, 1, none⟩ (.int .i64 ps)).setCell ⟨w.heap.size, 2, none⟩ (.bool pp)).setCell ⟨w.heap.size, 3, none⟩ (.int .i64 tk)).setCell ⟨w.heap.size, 4, none⟩ (.bool tp)).setCell ⟨w.heap.size, 5, none⟩ (.int .i64 pd)).cell? ⟨w.heap.size, 5, none⟩ = some (.int .i64 pd) := cell_of_row _ _ 5 _ _ _ rr
                  have ma9_0 : ((((((u10.setCell ⟨w.heap.size, 0, none⟩ (.slice (some ⟨g2, 0, none⟩) d.length c)).setCell ⟨w.heap.size, 1, none⟩ (.int .i64 ps)).setCell ⟨w.heap.size, 2, none⟩ (.bool pp)).setCell ⟨w.heap.size, 3, none⟩ (.int .i64 tk)).setCell ⟨w.heap.size, 4, none⟩ (.bool tp)).setCell ⟨w.heap.size, 5, none⟩ (.int .i64 pd)).cell? ⟨w3.heap.size, 0, none⟩ = some (.slice (some ⟨g2, 0, none⟩) d.length c) := cell_of_row _ _ 0 _ _ _ ra
                  have ma9_1 : ((((((u10.setCell ⟨w.heap.size, 0, none⟩ (.slice (some ⟨g2, 0, none⟩) d.length c)).setCell ⟨w.heap.size, 1, none⟩ (.int .i64 ps)).setCell ⟨w.heap.size, 2, none⟩ (.bool pp)).setCell ⟨w.heap.size, 3, none⟩ (.int .i64 tk)).setCell ⟨w.heap.size, 4, none⟩ (.bool tp)).setCell ⟨w.heap.size, 5, none⟩ (.int .i64 pd)).cell? ⟨w3.heap.size, 1, none⟩ = some (.int .i64 ps) := cell_of_row _ _ 1 _ _ _ ra
                  have ma9_2 : ((((((u10.setCell ⟨w.heap.size, 0, none⟩ (.slice (some ⟨g2, 0, none⟩) d.length c)).setCell ⟨w.heap.size, 1, none⟩ (.int .i64 ps)).setCell ⟨w.heap.size, 2, none⟩ (.bool pp)).setCell ⟨w.heap.size, 3, none⟩ (.int .i64 tk)).setCell ⟨w.heap.size, 4, none⟩ (.bool tp)).setCell ⟨w.heap.size, 5, none⟩ (.int .i64 pd)).cell? ⟨w3.heap.size, 2, none⟩ = some (.bool pp) := cell_of_row _ _ 2 _ _ _ ra
                  have ma9_3 : ((((((u10.setCell ⟨w.heap.size, 0, none⟩ (.slice (some ⟨g2, 0, none⟩) d.length c)).setCell ⟨w.heap.size, 1, none⟩ (.int .i64 ps)).setCell ⟨w.heap.size, 2, none⟩ (.bool pp)).setCell ⟨w.heap.size, 3, none⟩ (.int .i64 tk)).setCell ⟨w.heap.size, 4, none⟩ (.bool tp)).setCell ⟨w.heap.size, 5, none⟩ (.int .i64 pd)).cell? ⟨w3.heap.size, 3, none⟩ = some (.int .i64 tk) := cell_of_row _ _ 3 _ _ _ ra
                  have ma9_4 : ((((((u10.setCell ⟨w.heap.size, 0, none⟩ (.slice (some ⟨g2, 0, none⟩) d.length c)).setCell ⟨w.heap.size, 1, none⟩ (.int .i64 ps)).setCell ⟨w.heap.size, 2, none⟩ (.bool pp)).setCell ⟨w.heap.size, 3, none⟩ (.int .i64 tk)).setCell ⟨w.heap.size, 4, none⟩ (.bool tp)).setCell ⟨w.heap.size, 5, none⟩ (.int .i64 pd)).cell? ⟨w3.heap.size, 4, none⟩ = some (.bool tp) := cell_of_row _ _ 4 _ _ _ ra
                  have ma9_5 : ((((((u10.setCell ⟨w.heap.size, 0, none⟩ (.slice (some ⟨g2, 0, none⟩) d.length c)).setCell ⟨w.heap.size, 1, none⟩ (.int .i64 ps)).setCell ⟨w.heap.size, 2, none⟩ (.bool pp)).setCell ⟨w.heap.size, 3, none⟩ (.int .i64 tk)).setCell ⟨w.heap.size, 4, none⟩ (.bool tp)).setCell ⟨w.heap.size, 5, none⟩ (.int .i64 pd)).cell? ⟨w3.heap.size, 5, none⟩ = some (.int .i64 pd) := cell_of_row _ _ 5 _ _ _ ra
                  go_wp2_with fail
                  refine bodyPost_ret (v := .agg #[.slice (some ⟨g2, 0, none⟩) d.length c, .int .i64 ps, .bool pp, .int .i64 tk, .bool tp, .int .i64 pd]) (by simp only [results, Try.results42]; simp [go_sem, mr12_0, mr12_1, mr12_2, mr12_3, mr12_4, mr12_5]) rfl ?_
                  exact ⟨some ⟨g2, 0, none⟩, c, d3, ps, pp, tk, tp, pd, ((q4 + 1) + 1), by rw [hl3.out], ⟨by rw [hl3.out]; exact o2.wide (by omega) (by omega), by rw [hl3.out]; omega⟩, by omega, hr, hF⟩
                exact AllReadyH.nil
              exact AllReadyH.nil
            exact AllReadyH.nil
          refine AllReadyH.cons rfl (fun K hK => ?_) ?_
          · go_simp
            refine hK.out _ _ trivial (fun hHeld => ?_)
            clear hK K
            try simp only [Act.put, List.getElem_toArray, List.getElem_cons_zero, List.getElem_cons_succ, List.setIfInBounds_toArray, List.set_cons_zero, List.set_cons_succ]
            refine wpAnyH_take (i := 6) (v := ?_) rfl (by kernel_rfl) (by kernel_rfl) (by kernel_rfl) (fun _ _ _ h => h) (Or.inl ⟨by rfl, ?_⟩) (by assumption) ?_
            rotate_left
            · (intro wz hSw; (try dsimp only at hSw); go_simp; try with_reducible rfl)
            simp only [Act.put, List.getElem_toArray, List.getElem_cons_zero, List.getElem_cons_succ, List.setIfInBounds_toArray, List.set_cons_zero, List.set_cons_succ]
            refine wpAnyH_take (i := 7) (v := ?_) rfl (by kernel_rfl) (by kernel_rfl) (by kernel_rfl) (fun _ _ _ h => h) (Or.inl ⟨by rfl, ?_⟩) (by assumption) ?_
            rotate_left
            · (intro wz hSw; (try dsimp only at hSw); go_simp; try with_reducible rfl)
            simp only [Act.put, List.getElem_toArray, List.getElem_cons_zero, List.getElem_cons_succ, List.setIfInBounds_toArray, List.set_cons_zero, List.set_cons_succ]
            refine wpAnyH_ready (rs := [1, 8]) (by kernel_rfl) (by simp) ?_
            refine AllReadyH.cons rfl (fun K hK => ?_) ?_
            · go_simp
              refine hK.out _ _ trivial (fun hHeld => ?_)
              clear hK K
              try simp only [Act.put, List.getElem_toArray, List.getElem_cons_zero, List.getElem_cons_succ, List.setIfInBounds_toArray, List.set_cons_zero, List.set_cons_succ]
              refine wpAnyH_ready (rs := [8]) (by kernel_rfl) (by simp) ?_
              refine AllReadyH.cons rfl (fun K hK => ?_) ?_
              · have hx1 := (o2.sees.ans_c t ht).2
                rw [HDT.out] at hx1
                simp only [Nat.zero_add] at hx1
                go_simp
                clear hx1
                refine hK.out _ _ trivial (fun hHeld => ?_)
                clear hK K
                try simp only [Act.put, List.getElem_toArray, List.getElem_cons_zero, List.getElem_cons_succ, List.setIfInBounds_toArray, List.set_cons_zero, List.set_cons_succ]
                refine wpAnyH_take (i := 9) (v := ?_) rfl (by kernel_rfl) (by kernel_rfl) (by kernel_rfl) (fun _ _ _ h => h) (Or.inl ⟨by rfl, ?_⟩) (by assumption) ?_
                rotate_left
                · (intro wz hSw; (try dsimp only at hSw); go_simp; try with_reducible rfl)
                simp only [Act.put, List.getElem_toArray, List.getElem_cons_zero, List.getElem_cons_succ, List.setIfInBounds_toArray, List.set_cons_zero, List.set_cons_succ]
                refine wpAnyH_take (i := 10) (v := ?_) rfl (by kernel_rfl) (by kernel_rfl) (by kernel_rfl) (fun _ _ _ h => h) (Or.inl ⟨by rfl, ?_⟩) (by assumption) ?_
                rotate_left
                · (intro wz hSw; (try dsimp only at hSw); go_simp; try with_reducible rfl)
                simp only [Act.put, List.getElem_toArray, List.getElem_cons_zero, List.getElem_cons_succ, List.setIfInBounds_toArray, List.set_cons_zero, List.set_cons_succ]
                refine wpAnyH_take (i := 11) (v := ?_) rfl (by kernel_rfl) (by kernel_rfl) (by kernel_rfl) (fun _ _ _ h => h) (Or.inl ⟨by rfl, ?_⟩) (by assumption) ?_
                rotate_left
                · (intro wz hSw; (try dsimp only at hSw); go_simp; try with_reducible rfl)
                simp only [Act.put, List.getElem_toArray, List.getElem_cons_zero, List.getElem_cons_succ, List.setIfInBounds_toArray, List.set_cons_zero, List.set_cons_succ]
                refine wpAnyH_ready (rs := [12]) (by kernel_rfl) (by simp) ?_
                refine AllReadyH.cons rfl (fun K hK => ?_) ?_
                · have hxl : (ansC d).length = d.length * 2 := ansC_length d
                  have hx1 := (o2.sees.ans_c t ht).2
                  rw [HDT.out] at hx1
                  simp only [Nat.zero_add] at hx1
                  have z1 := o2.frozen rfl (t * 2 + 1)
                  replace rr := rowSet rr ⟨g2, t * 2 + 1, none⟩ (.bool (!xp)) (by show _ ≠ g2; omega)
                  replace ra := rowSet ra ⟨g2, t * 2 + 1, none⟩ (.bool (!xp)) (by show _ ≠ g2; omega)
                  replace o2 := o2.set rfl (t * 2 + 1) (.bool (!xp))
                  replace hr := rd_setc hr ⟨g2, t * 2 + 1, none⟩ (.bool (!xp)) (by show _ < g2; omega)
                  replace hF := fr_setd hF (p := ⟨g2, t * 2 + 1, none⟩) (by show _ ≤ g2; omega) (.bool (!xp))
                  have s10 : u9.heap.size ≤ (u9.setCell ⟨g2, t * 2 + 1, none⟩ (.bool (!xp))).heap.size := Nat.le_of_eq (World.size_setCell _ _ _).symm
                  have mr11_0 : (u9.setCell ⟨g2, t * 2 + 1, none⟩ (.bool (!xp))).cell? ⟨w.heap.size, 0, none⟩ = some (.slice none 0 0) := cell_of_row _ _ 0 _ _ _ rr
                  have mr11_1 : (u9.setCell ⟨g2, t * 2 + 1, none⟩ (.bool (!xp))).cell? ⟨w.heap.size, 1, none⟩ = some (.int .i64 0) := cell_of_row _ _ 1 _ _ _ rr
                  have mr11_2 : (u9.setCell ⟨g2, t * 2 + 1, none⟩ (.bool (!xp))).cell? ⟨w.heap.size, 2, none⟩ = some (.bool false) := cell_of_row _ _ 2 _ _ _ rr
                  have mr11_3 : (u9.setCell ⟨g2, t * 2 + 1, none⟩ (.bool (!xp))).cell? ⟨w.heap.size, 3, none⟩ = some (.int .i64 0) := cell_of_row _ _ 3 _ _ _ rr
                  have mr11_4 : (u9.setCell ⟨g2, t * 2 + 1, none⟩ (.bool (!xp))).cell? ⟨w.heap.size, 4, none⟩ = some (.bool false) := cell_of_row _ _ 4 _ _ _ rr
                  have mr11_5 : (u9.setCell ⟨g2, t * 2 + 1, none⟩ (.bool (!xp))).cell? ⟨w.heap.size, 5, none⟩ = some (.int .i64 0) := cell_of_row _ _ 5 _ _ _ rr
                  have ma8_0 : (u9.setCell ⟨g2, t * 2 + 1, none⟩ (.bool (!xp))).cell? ⟨w3.heap.size, 0, none⟩ = some (.slice (some ⟨g2, 0, none⟩) d.length c) := cell_of_row _ _ 0 _ _ _ ra
                  have ma8_1 : (u9.setCell ⟨g2, t * 2 + 1, none⟩ (.bool (!xp))).cell? ⟨w3.heap.size, 1, none⟩ = some (.int .i64 ps) := cell_of_row _ _ 1 _ _ _ ra
                  have ma8_2 : (u9.setCell ⟨g2, t * 2 + 1, none⟩ (.bool (!xp))).cell? ⟨w3.heap.size, 2, none⟩ = some (.bool pp) := cell_of_row _ _ 2 _ _ _ ra
                  have ma8_3 : (u9.setCell ⟨g2, t * 2 + 1, none⟩ (.bool (!xp))).cell? ⟨w3.heap.size, 3, none⟩ = some (.int .i64 tk) := cell_of_row _ _ 3 _ _ _ ra
                  have ma8_4 : (u9.setCell ⟨g2, t * 2 + 1, none⟩ (.bool (!xp))).cell? ⟨w3.heap.size, 4, none⟩ = some (.bool tp) := cell_of_row _ _ 4 _ _ _ ra
                  have ma8_5 : (u9.setCell ⟨g2, t * 2 + 1, none⟩ (.bool (!xp))).cell? ⟨w3.heap.size, 5, none⟩ = some (.int .i64 pd) := cell_of_row _ _ 5 _ _ _ ra
                  rw [ansC_flip d t ht xv xp HDT.out] at o2
                  go_simp
                  refine hK.out _ _ trivial (fun hHeld => ?_)
                  clear z1 hx1 mr10_0 mr10_1 mr10_2 mr10_3 mr10_4 mr10_5 ma7_0 ma7_1 ma7_2 ma7_3 ma7_4 ma7_5
                  generalize (u9.setCell ⟨g2, t * 2 + 1, none⟩ (.bool (!xp))) = u10 at *
                  clear hK K
                  try simp only [Act.put, List.getElem_toArray, List.getElem_cons_zero, List.getElem_cons_succ, List.setIfInBounds_toArray, List.set_cons_zero, List.set_cons_succ]
                  refine wpAnyH_done (by kernel_rfl) ?_ _
                  refine NoPanic.normal ?_
                  have hl3 : (d.set t (xv, !xp)).length = d.length := List.length_set
                  generalize d.set t (xv, !xp) = d3 at *
                  replace hl3 := Lib.hid hl3
                  have z11_0 := frzRow rr 0
                  have z11_1 := frzRow rr 1
                  have z11_2 := frzRow rr 2
                  have z11_3 := frzRow rr 3
                  have z11_4 := frzRow rr 4
                  have z11_5 := frzRow rr 5
                  replace ra := rowSet (rowSet (rowSet (rowSet (rowSet (rowSet (ra) ⟨w.heap.size, 0, none⟩ (.slice (some ⟨g2, 0, none⟩) d.length c) (by show _ ≠ w.heap.size; omega)) ⟨w.heap.size, 1, none⟩ (.int .i64 ps) (by show _ ≠ w.heap.size; omega)) ⟨w.heap.size, 2, none⟩ (.bool pp) (by show _ ≠ w.heap.size; omega)) ⟨w.heap.size, 3, none⟩ (.int .i64 tk) (by show _ ≠ w.heap.size; omega)) ⟨w.heap.size, 4, none⟩ (.bool tp) (by show _ ≠ w.heap.size; omega)) ⟨w.heap.size, 5, none⟩ (.int .i64 pd) (by show _ ≠ w.heap.size; omega)
                  replace rr := put5 (put4 (put3 (put2 (put1 (put0 (rr) (.slice (some ⟨g2, 0, none⟩) d.length c)) (.int .i64 ps)) (.bool pp)) (.int .i64 tk)) (.bool tp)) (.int .i64 pd)
                  replace o2 := ((((((o2).setOther ⟨w.heap.size, 0, none⟩ (.slice (some ⟨g2, 0, none⟩) d.length c) (by show w.heap.size < _ ∨ _ ≤ w.heap.size; omega)).setOther ⟨w.heap.size, 1, none⟩ (.int .i64 ps) (by show w.heap.size < _ ∨ _ ≤ w.heap.size; omega)).setOther ⟨w.heap.size, 2, none⟩ (.bool pp) (by show w.heap.size < _ ∨ _ ≤ w.heap.size; omega)).setOther ⟨w.heap.size, 3, none⟩ (.int .i64 tk) (by show w.heap.size < _ ∨ _ ≤ w.heap.size; omega)).setOther ⟨w.heap.size, 4, none⟩ (.bool tp) (by show w.heap.size < _ ∨ _ ≤ w.heap.size; omega)).setOther ⟨w.heap.size, 5, none⟩ (.int .i64 pd) (by show w.heap.size < _ ∨ _ ≤ w.heap.size; omega)
                  replace hr := rd_setc (rd_setc (rd_setc (rd_setc (rd_setc (rd_setc (hr) ⟨w.heap.size, 0, none⟩ (.slice (some ⟨g2, 0, none⟩) d.length c) (by show _ < w.heap.size; omega)) ⟨w.heap.size, 1, none⟩ (.int .i64 ps) (by show _ < w.heap.size; omega)) ⟨w.heap.size, 2, none⟩ (.bool pp) (by show _ < w.heap.size; omega)) ⟨w.heap.size, 3, none⟩ (.int .i64 tk) (by show _ < w.heap.size; omega)) ⟨w.heap.size, 4, none⟩ (.bool tp) (by show _ < w.heap.size; omega)) ⟨w.heap.size, 5, none⟩ (.int .i64 pd) (by show _ < w.heap.size; omega)
                  replace hF := fr_setd (fr_setd (fr_setd (fr_setd (fr_setd (fr_setd (hF) (p := ⟨w.heap.size, 0, none⟩) (by show _ ≤ w.heap.size; omega) (.slice (some ⟨g2, 0, none⟩) d.length c)) (p := ⟨w.heap.size, 1, none⟩) (by show _ ≤ w.heap.size; omega) (.int .i64 ps)) (p := ⟨w.heap.size, 2, none⟩) (by show _ ≤ w.heap.size; omega) (.bool pp)) (p := ⟨w.heap.size, 3, none⟩) (by show _ ≤ w.heap.size; omega) (.int .i64 tk)) (p := ⟨w.heap.size, 4, none⟩) (by show _ ≤ w.heap.size; omega) (.bool tp)) (p := ⟨w.heap.size, 5, none⟩) (by show _ ≤ w.heap.size; omega) (.int .i64 pd)
                  have s11 : u10.heap.size ≤ ((((((u10.setCell ⟨w.heap.size, 0, none⟩ (.slice (some ⟨g2, 0, none⟩) d.length c)).setCell ⟨w.heap.size, 1, none⟩ (.int .i64 ps)).setCell ⟨w.heap.size, 2, none⟩ (.bool pp)).setCell ⟨w.heap.size, 3, none⟩ (.int .i64 tk)).setCell ⟨w.heap.size, 4, none⟩ (.bool tp)).setCell ⟨w.heap.size, 5, none⟩ (.int .i64 pd)).heap.size := by simp only [World.size_setCell]; exact Nat.le_refl _
                  have mr12_0 : ((((((u10.setCell ⟨w.heap.size, 0, none⟩ (.slice (some ⟨g2, 0, none⟩) d.length c)).setCell ⟨w.heap.size, 1, none⟩ (.int .i64 ps)).setCell ⟨w.heap.size, 2, none⟩ (.bool pp)).setCell ⟨w.heap.size, 3, none⟩ (.int .i64 tk)).setCell ⟨w.heap.size, 4, none⟩ (.bool tp)).setCell ⟨w.heap.size, 5, none⟩ (.int .i64 pd)).cell? ⟨w.heap.size, 0, none⟩ = some (.slice (some ⟨g2, 0, none⟩) d.length c) := cell_of_row _ _ 0 _ _ _ rr
                  have mr12_1 : ((((((u10.setCell ⟨w.heap.size, 0, none⟩ (.slice (some ⟨g2, 0, none⟩) d.length c)).setCell ⟨w.heap.size, 1, none⟩ (.int .i64 ps)).setCell ⟨w.heap.size, 2, none⟩ (.bool pp)).setCell ⟨w.heap.size, 3, none⟩ (.int .i64 tk)).setCell ⟨w.heap.size, 4, none⟩ (.bool tp)).setCell ⟨w.heap.size, 5, none⟩ (.int .i64 pd)).cell? ⟨w.heap.size, 1, none⟩ = some (.int .i64 ps) := cell_of_row _ _ 1 _ _ _ rr
                  have mr12_2 : ((((((u10.setCell ⟨w.heap.size, 0, none⟩ (.slice (some ⟨g2, 0, none⟩) d.length c)).setCell ⟨w.heap.size, 1, none⟩ (.int .i64 ps)).setCell ⟨w.heap.size, 2, none⟩ (.bool pp)).setCell ⟨w.heap.size, 3, none⟩ (.int .i64 tk)).setCell ⟨w.heap.size, 4, none⟩ (.bool tp)).setCell ⟨w.heap.size, 5, none⟩ (.int .i64 pd)).cell? ⟨w.heap.size, 2, none⟩ = some (.bool pp) := cell_of_row _ _ 2 _ _ _ rr
                  have mr12_3 : ((((((u10.setCell ⟨w.heap.size, 0, none⟩ (.slice (some ⟨g2, 0, none⟩) d.length c)).setCell ⟨w.heap.size, 1, none⟩ (.int .i64 ps)).setCell ⟨w.heap.size, 2, none⟩ (.bool pp)).setCell ⟨w.heap.size, 3, none⟩ (.int .i64 tk)).setCell ⟨w.heap.size, 4, none⟩ (.bool tp)).setCell ⟨w.heap.size, 5, none⟩ (.int .i64 pd)).cell? ⟨w.heap.size, 3, none⟩ = some (.int .i64 tk) := cell_of_row _ _ 3 _ _ _ rr
                  have mr12_4 : ((((((u10.setCell ⟨w.heap.size, 0, none⟩ (.slice (some ⟨g2, 0, none⟩) d.length c)).setCell ⟨w.heap.size, 1, none⟩ (.int .i64 ps)).setCell ⟨w.heap.size, 2, none⟩ (.bool pp)).setCell ⟨w.heap.size, 3, none⟩ (.int .i64 tk)).setCell ⟨w.heap.size, 4, none⟩ (.bool tp)).setCell ⟨w.heap.size, 5, none⟩ (.int .i64 pd)).cell? ⟨w.heap.size, 4, none⟩ = some (.bool tp) := cell_of_row _ _ 4 _ _ _ rr
                  have mr12_5 : ((((((u10.setCell ⟨w.heap.size, 0, none⟩ (.slice (some ⟨g2, 0, none⟩) d.length c)).setCell ⟨w.heap.size, 1, none⟩ (.int .i64 ps)).setCell ⟨w.heap.size, 2, none⟩ (.bool pp)).setCell ⟨w.heap.size, 3, none⟩ (.int .i64 tk)).setCell ⟨w.heap.size, 4, none⟩ (.bool tp)).setCell ⟨w.heap.size, 5, none⟩ (.int .i64 pd)).cell? ⟨w.heap.size, 5, none⟩ = some (.int .i64 pd) := cell_of_row _ _ 5 _ _ _ rr
                  have ma9_0 : ((((((u10.setCell ⟨w.heap.size, 0, none⟩ (.slice (some ⟨g2, 0, none⟩) d.length c)).setCell ⟨w.heap.size, 1, none⟩ (.int .i64 ps)).setCell ⟨w.heap.size, 2, none⟩ (.bool pp)).setCell ⟨w.heap.size, 3, none⟩ (.int .i64 tk)).setCell ⟨w.heap.size, 4, none⟩ (.bool tp)).setCell ⟨w.heap.size, 5, none⟩ (.int .i64 pd)).cell? ⟨w3.heap.size, 0, none⟩ = some (.slice (some ⟨g2, 0, none⟩) d.length c) := cell_of_row _ _ 0 _ _ _ ra
                  have ma9_1 : ((((((u10.setCell ⟨w.heap.size, 0, none⟩ (.slice (some ⟨g2, 0, none⟩) d.length c)).setCell ⟨w.heap.size, 1, none⟩ (.int .i64 ps)).setCell ⟨w.heap.size, 2, none⟩ (.bool pp)).setCell ⟨w.heap.size, 3, none⟩ (.int .i64 tk)).setCell ⟨w.heap.size, 4, none⟩ (.bool tp)).setCell ⟨w.heap.size, 5, none⟩ (.int .i64 pd)).cell? ⟨w3.heap.size, 1, none⟩ = some (.int .i64 ps) := cell_of_row _ _ 1 _ _ _ ra
                  have ma9_2 : ((((((u10.setCell ⟨w.heap.size, 0, none⟩ (.slice (some ⟨g2, 0, none⟩) d.length c)).setCell ⟨w.heap.size, 1, none⟩ (.int .i64 ps)).setCell ⟨w.heap.size, 2, none⟩ (.bool pp)).setCell ⟨w.heap.size, 3, none⟩ (.int .i64 tk)).setCell ⟨w.heap.size, 4, none⟩ (.bool tp)).setCell ⟨w.heap.size, 5, none⟩ (.int .i64 pd)).cell? ⟨w3.heap.size, 2, none⟩ = some (.bool pp) := cell_of_row _ _ 2 _ _ _ ra
                  have ma9_3 : ((((((u10.setCell ⟨w.heap.size, 0, none⟩ (.slice (some ⟨g2, 0, none⟩) d.length c)).setCell ⟨w.heap.size, 1, none⟩ (.int .i64 ps)).setCell ⟨w.heap.size, 2, none⟩ (.bool pp)).setCell ⟨w.heap.size, 3, none⟩ (.int .i64 tk)).setCell ⟨w.heap.size, 4, none⟩ (.bool tp)).setCell ⟨w.heap.size, 5, none⟩ (.int .i64 pd)).cell? ⟨w3.heap.size, 3, none⟩ = some (.int .i64 tk) := cell_of_row _ _ 3 _ _ _ ra
                  have ma9_4 : ((((((u10.setCell ⟨w.heap.size, 0, none⟩ (.slice (some ⟨g2, 0, none⟩) d.length c)).setCell ⟨w.heap.size, 1, none⟩ (.int .i64 ps)).setCell ⟨w.heap.size, 2, none⟩ (.bool pp)).setCell ⟨w.heap.size, 3, none⟩ (.int .i64 tk)).setCell ⟨w.heap.size, 4, none⟩ (.bool tp)).setCell ⟨w.heap.size, 5, none⟩ (.int .i64 pd)).cell? ⟨w3.heap.size, 4, none⟩ = some (.bool tp) := cell_of_row _ _ 4 _ _ _ ra
                  have ma9_5 : ((((((u10.setCell ⟨w.heap.size, 0, none⟩ (.slice (some ⟨g2, 0, none⟩) d.length c)).setCell ⟨w.heap.size, 1, none⟩ (.int .i64 ps)).setCell ⟨w.heap.size, 2, none⟩ (.bool pp)).setCell ⟨w.heap.size, 3, none⟩ (.int .i64 tk)).setCell ⟨w.heap.size, 4, none⟩ (.bool tp)).setCell ⟨w.heap.size, 5, none⟩ (.int .i64 pd)).cell? ⟨w3.heap.size, 5, none⟩ = some (.int .i64 pd) := cell_of_row _ _ 5 _ _ _ ra
                  go_wp2_with fail
                  refine bodyPost_ret (v := .agg #[.slice (some ⟨g2, 0, none⟩) d.length c, .int .i64 ps, .bool pp, .int .i64 tk, .bool tp, .int .i64 pd]) (by simp only [results, Try.results42]; simp [go_sem, mr12_0, mr12_1, mr12_2, mr12_3, mr12_4, mr12_5]) rfl ?_
                  exact ⟨some ⟨g2, 0, none⟩, c, d3, ps, pp, tk, tp, pd, ((q4 + 1) + 1), by rw [hl3.out], ⟨by rw [hl3.out]; exact o2.wide (by omega) (by omega), by rw [hl3.out]; omega⟩, by omega, hr, hF⟩
                exact AllReadyH.nil
              exact AllReadyH.nil
            refine AllReadyH.cons rfl (fun K hK => ?_) ?_
            · have hx1 := (o2.sees.ans_c t ht).2
              rw [HDT.out] at hx1
              simp only [Nat.zero_add] at hx1
              go_simp
              clear hx1
              refine hK.out _ _ trivial (fun hHeld => ?_)
              clear hK K
              try simp only [Act.put, List.getElem_toArray, List.getElem_cons_zero, List.getElem_cons_succ, List.setIfInBounds_toArray, List.set_cons_zero, List.set_cons_succ]
              refine wpAnyH_take (i := 9) (v := ?_) rfl (by kernel_rfl) (by kernel_rfl) (by kernel_rfl) (fun _ _ _ h => h) (Or.inl ⟨by rfl, ?_⟩) (by assumption) ?_
              rotate_left
              · (intro wz hSw; (try dsimp only at hSw); go_simp; try with_reducible rfl)
              simp only [Act.put, List.getElem_toArray, List.getElem_cons_zero, List.getElem_cons_succ, List.setIfInBounds_toArray, List.set_cons_zero, List.set_cons_succ]
              refine wpAnyH_ready (rs := [1]) (by kernel_rfl) (by simp) ?_
              refine AllReadyH.cons rfl (fun K hK => ?_) ?_
              · go_simp
                refine hK.out _ _ trivial (fun hHeld => ?_)
                clear hK K
                try simp only [Act.put, List.getElem_toArray, List.getElem_cons_zero, List.getElem_cons_succ, List.setIfInBounds_toArray, List.set_cons_zero, List.set_cons_succ]
                refine wpAnyH_take (i := 10) (v := ?_) rfl (by kernel_rfl) (by kernel_rfl) (by kernel_rfl) (fun _ _ _ h => h) (Or.inl ⟨by rfl, ?_⟩) (by assumption) ?_
                rotate_left
                · (intro wz hSw; (try dsimp only at hSw); go_simp; try with_reducible rfl)
                simp only [Act.put, List.getElem_toArray, List.getElem_cons_zero, List.getElem_cons_succ, List.setIfInBounds_toArray, List.set_cons_zero, List.set_cons_succ]
                refine wpAnyH_take (i := 11) (v := ?_) rfl (by kernel_rfl) (by kernel_rfl) (by kernel_rfl) (fun _ _ _ h => h) (Or.inl ⟨by rfl, ?_⟩) (by assumption) ?_
                rotate_left
                · (intro wz hSw; (try dsimp only at hSw); go_simp; try with_reducible rfl)
                simp only [Act.put, List.getElem_toArray, List.getElem_cons_zero, List.getElem_cons_succ, List.setIfInBounds_toArray, List.set_cons_zero, List.set_cons_succ]
                refine wpAnyH_ready (rs := [12]) (by kernel_rfl) (by simp) ?_
                refine AllReadyH.cons rfl (fun K hK => ?_) ?_
                · have hxl : (ansC d).length = d.length * 2 := ansC_length d
                  have hx1 := (o2.sees.ans_c t ht).2
                  rw [HDT.out] at hx1
                  simp only [Nat.zero_add] at hx1
                  have z1 := o2.frozen rfl (t * 2 + 1)
                  replace rr := rowSet rr ⟨g2, t * 2 + 1, none⟩ (.bool (!xp)) (by show _ ≠ g2; omega)
                  replace ra := rowSet ra ⟨g2, t * 2 + 1, none⟩ (.bool (!xp)) (by show _ ≠ g2; omega)
                  replace o2 := o2.set rfl (t * 2 + 1) (.bool (!xp))
                  replace hr := rd_setc hr ⟨g2, t * 2 + 1, none⟩ (.bool (!xp)) (by show _ < g2; omega)
                  replace hF := fr_setd hF (p := ⟨g2, t * 2 + 1, none⟩) (by show _ ≤ g2; omega) (.bool (!xp))
                  have s10 : u9.heap.size ≤ (u9.setCell ⟨g2, t * 2 + 1, none⟩ (.bool (!xp))).heap.size := Nat.le_of_eq (World.size_setCell _ _ _).symm
                  have mr11_0 : (u9.setCell ⟨g2, t * 2 + 1, none⟩ (.bool (!xp))).cell? ⟨w.heap.size, 0, none⟩ = some (.slice none 0 0) := cell_of_row _ _ 0 _ _ _ rr
                  have mr11_1 : (u9.setCell ⟨g2, t * 2 + 1, none⟩ (.bool (!xp))).cell? ⟨w.heap.size, 1, none⟩ = some (.int .i64 0) := cell_of_row _ _ 1 _ _ _ rr
                  have mr11_2 : (u9.setCell ⟨g2, t * 2 + 1, none⟩ (.bool (!xp))).cell? ⟨w.heap.size, 2, none⟩ = some (.bool false) := cell_of_row _ _ 2 _ _ _ rr
                  have mr11_3 : (u9.setCell ⟨g2, t * 2 + 1, none⟩ (.bool (!xp))).cell? ⟨w.heap.size, 3, none⟩ = some (.int .i64 0) := cell_of_row _ _ 3 _ _ _ rr
                  have mr11_4 : (u9.setCell ⟨g2, t * 2 + 1, none⟩ (.bool (!xp))).cell? ⟨w.heap.size, 4, none⟩ = some (.bool false) := cell_of_row _ _ 4 _ _ _ rr
                  have mr11_5 : (u9.setCell ⟨g2, t * 2 + 1, none⟩ (.bool (!xp))).cell? ⟨w.heap.size, 5, none⟩ = some (.int .i64 0) := cell_of_row _ _ 5 _ _ _ rr
                  have ma8_0 : (u9.setCell ⟨g2, t * 2 + 1, none⟩ (.bool (!xp))).cell? ⟨w3.heap.size, 0, none⟩ = some (.slice (some ⟨g2, 0, none⟩) d.length c) := cell_of_row _ _ 0 _ _ _ ra
                  have ma8_1 : (u9.setCell ⟨g2, t * 2 + 1, none⟩ (.bool (!xp))).cell? ⟨w3.heap.size, 1, none⟩ = some (.int .i64 ps) := cell_of_row _ _ 1 _ _ _ ra
                  have ma8_2 : (u9.setCell ⟨g2, t * 2 + 1, none⟩ (.bool (!xp))).cell? ⟨w3.heap.size, 2, none⟩ = some (.bool pp) := cell_of_row _ _ 2 _ _ _ ra
                  have ma8_3 : (u9.setCell ⟨g2, t * 2 + 1, none⟩ (.bool (!xp))).cell? ⟨w3.heap.size, 3, none⟩ = some (.int .i64 tk) := cell_of_row _ _ 3 _ _ _ ra
                  have ma8_4 : (u9.setCell ⟨g2, t * 2 + 1, none⟩ (.bool (!xp))).cell? ⟨w3.heap.size, 4, none⟩ = some (.bool tp) := cell_of_row _ _ 4 _ _ _ ra
                  have ma8_5 : (u9.setCell ⟨g2, t * 2 + 1, none⟩ (.bool (!xp))).cell? ⟨w3.heap.size, 5, none⟩ = some (.int .i64 pd) := cell_of_row _ _ 5 _ _ _ ra
                  rw [ansC_flip d t ht xv xp HDT.out] at o2
                  go_simp
                  refine hK.out _ _ trivial (fun hHeld => ?_)
                  clear z1 hx1 mr10_0 mr10_1 mr10_2 mr10_3 mr10_4 mr10_5 ma7_0 ma7_1 ma7_2 ma7_3 ma7_4 ma7_5
                  generalize (u9.setCell ⟨g2, t * 2 + 1, none⟩ (.bool (!xp))) = u10 at *
                  clear hK K
                  try simp only [Act.put, List.getElem_toArray, List.getElem_cons_zero, List.getElem_cons_succ, List.setIfInBounds_toArray, List.set_cons_zero, List.set_cons_succ]
                  refine wpAnyH_done (by kernel_rfl) ?_ _
                  refine NoPanic.normal ?_
                  have hl3 : (d.set t (xv, !xp)).length = d.length := List.length_set
                  generalize d.set t (xv, !xp) = d3 at *
                  replace hl3 := Lib.hid hl3
                  have z11_0 := frzRow rr 0
                  have z11_1 := frzRow rr 1
                  have z11_2 := frzRow rr 2
                  have z11_3 := frzRow rr 3
                  have z11_4 := frzRow rr 4
                  have z11_5 := frzRow rr 5
                  replace ra := rowSet (rowSet (rowSet (rowSet (rowSet (rowSet (ra) ⟨w.heap.size, 0, none⟩ (.slice (some ⟨g2, 0, none⟩) d.length c) (by show _ ≠ w.heap.size; omega)) ⟨w.heap.size, 1, none⟩ (.int .i64 ps) (by show _ ≠ w.heap.size; omega)) ⟨w.heap.size, 2, none⟩ (.bool pp) (by show _ ≠ w.heap.size; omega)) ⟨w.heap.size, 3, none⟩ (.int .i64 tk) (by show _ ≠ w.heap.size; omega)) ⟨w.heap.size, 4, none⟩ (.bool tp) (by show _ ≠ w.heap.size; omega)) ⟨w.heap.size, 5, none⟩ (.int .i64 pd) (by show _ ≠ w.heap.size; omega)
                  replace rr := put5 (put4 (put3 (put2 (put1 (put0 (rr) (.slice (some ⟨g2, 0, none⟩) d.length c)) (.int .i64 ps)) (.bool pp)) (.int .i64 tk)) (.bool tp)) (.int .i64 pd)
                  replace o2 := ((((((o2).setOther ⟨w.heap.size, 0, none⟩ (.slice (some ⟨g2, 0, none⟩) d.length c) (by show w.heap.size < _ ∨ _ ≤ w.heap.size; omega)).setOther ⟨w.heap.size, 1, none⟩ (.int .i64 ps) (by show w.heap.size < _ ∨ _ ≤ w.heap.size; omega)).setOther ⟨w.heap.size, 2, none⟩ (.bool pp) (by show w.heap.size < _ ∨ _ ≤ w.heap.size; omega)).setOther ⟨w.heap.size, 3, none⟩ (.int .i64 tk) (by show w.heap.size < _ ∨ _ ≤ w.heap.size; omega)).setOther ⟨w.heap.size, 4, none⟩ (.bool tp) (by show w.heap.size < _ ∨ _ ≤ w.heap.size; omega)).setOther ⟨w.heap.size, 5, none⟩ (.int .i64 pd) (by show w.heap.size < _ ∨ _ ≤ w.heap.size; omega)
                  replace hr := rd_setc (rd_setc (rd_setc (rd_setc (rd_setc (rd_setc (hr) ⟨w.heap.size, 0, none⟩ (.slice (some ⟨g2, 0, none⟩) d.length c) (by show _ < w.heap.size; omega)) ⟨w.heap.size, 1, none⟩ (.int .i64 ps) (by show _ < w.heap.size; omega)) ⟨w.heap.size, 2, none⟩ (.bool pp) (by show _ < w.heap.size; omega)) ⟨w.heap.size, 3, none⟩ (.int .i64 tk) (by show _ < w.heap.size; omega)) ⟨w.heap.size, 4, none⟩ (.bool tp) (by show _ < w.heap.size; omega)) ⟨w.heap.size, 5, none⟩ (.int .i64 pd) (by show _ < w.heap.size; omega)
                  replace hF := fr_setd (fr_setd (fr_setd (fr_setd (fr_setd (fr_setd (hF) (p := ⟨w.heap.size, 0, none⟩) (by show _ ≤ w.heap.size; omega) (.slice (some ⟨g2, 0, none⟩) d.length c)) (p := ⟨w.heap.size, 1, none⟩) (by show _ ≤ w.heap.size; omega) (.int .i64 ps)) (p := ⟨w.heap.size, 2, none⟩) (by show _ ≤ w.heap.size; omega) (.bool pp)) (p := ⟨w.heap.size, 3, none⟩) (by show _ ≤ w.heap.size; omega) (.int .i64 tk)) (p := ⟨w.heap.size, 4, none⟩) (by show _ ≤ w.heap.size; omega) (.bool tp)) (p := ⟨w.heap.size, 5, none⟩) (by show _ ≤ w.heap.size; omega) (.int .i64 pd)
                  have s11 : u10.heap.size ≤ ((((((u10.setCell ⟨w.heap.size, 0, none⟩ (.slice (some ⟨g2, 0, none⟩) d.length c)).setCell ⟨w.heap.size, 1, none⟩ (.int .i64 ps)).setCell ⟨w.heap.size, 2, none⟩ (.bool pp)).setCell ⟨w.heap.size, 3, none⟩ (.int .i64 tk)).setCell ⟨w.heap.size, 4, none⟩ (.bool tp)).setCell ⟨w.heap.size, 5, none⟩ (.int .i64 pd)).heap.size := by simp only [World.size_setCell]; exact Nat.le_refl _
                  have mr12_0 : ((((((u10.setCell ⟨w.heap.size, 0, none⟩ (.slice (some ⟨g2, 0, none⟩) d.length c)).setCell ⟨w.heap.size, 1, none⟩ (.int .i64 ps)).setCell ⟨w.heap.size, 2, none⟩ (.bool pp)).setCell ⟨w.heap.size, 3, none⟩ (.int .i64 tk)).setCell ⟨w.heap.size, 4, none⟩ (.bool tp)).setCell ⟨w.heap.size, 5, none⟩ (.int .i64 pd)).cell? ⟨w.heap.size, 0, none⟩ = some (.slice (some ⟨g2, 0, none⟩) d.length c) := cell_of_row _ _ 0 _ _ _ rr
                  have mr12_1 : ((((((u10.setCell ⟨w.heap.size, 0, none⟩ (.slice (some ⟨g2, 0, none⟩) d.length c)).setCell ⟨w.heap.size, 1, none⟩ (.int .i64 ps)).setCell ⟨w.heap.size, 2, none⟩ (.bool pp)).setCell ⟨w.heap.size, 3, none⟩ (.int .i64 tk)).setCell ⟨w.heap.size, 4, none⟩ (.bool tp)).setCell ⟨w.heap.size, 5, none⟩ (.int .i64 pd)).cell? ⟨w.heap.size, 1, none⟩ = some (.int .i64 ps) := cell_of_row _ _ 1 _ _ _ rr
                  have mr12_2 : ((((((u10.setCell ⟨w.heap.size, 0, none⟩ (.slice (some ⟨g2, 0, none⟩) d.length c)).setCell ⟨w.heap.size, 1, none⟩ (.int .i64 ps)).setCell ⟨w.heap.size, 2, none⟩ (.bool pp)).setCell ⟨w.heap.size, 3, none⟩ (.int .i64 tk)).setCell ⟨w.heap.size, 4, none⟩ (.bool tp)).setCell ⟨w.heap.size, 5, none⟩ (.int .i64 pd)).cell? ⟨w.heap.size, 2, none⟩ = some (.bool pp) := cell_of_row _ _ 2 _ _ _ rr
                  have mr12_3 : ((((((u10.setCell ⟨w.heap.size, 0, none⟩ (.slice (some ⟨g2, 0, none⟩) d.length c)).setCell ⟨w.heap.size, 1, none⟩ (.int .i64 ps)).setCell ⟨w.heap.size, 2, none⟩ (.bool pp)).setCell ⟨w.heap.size, 3, none⟩ (.int .i64 tk)).setCell ⟨w.heap.size, 4, none⟩ (.bool tp)).setCell ⟨w.heap.size, 5, none⟩ (.int .i64 pd)).cell? ⟨w.heap.size, 3, none⟩ = some (.int .i64 tk) := cell_of_row _ _ 3 _ _ _ rr
                  have mr12_4 : ((((((u10.setCell ⟨w.heap.size, 0, none⟩ (.slice (some ⟨g2, 0, none⟩) d.length c)).setCell ⟨w.heap.size, 1, none⟩ (.int .i64 ps)).setCell ⟨w.heap.size, 2, none⟩ (.bool pp)).setCell ⟨w.heap.size, 3, none⟩ (.int .i64 tk)).setCell ⟨w.heap.size, 4, none⟩ (.bool tp)).setCell ⟨w.heap.size, 5, none⟩ (.int .i64 pd)).cell? ⟨w.heap.size, 4, none⟩ = some (.bool tp) := cell_of_row _ _ 4 _ _ _ rr
                  have mr12_5 : ((((((u10.setCell ⟨w.heap.size, 0, none⟩ (.slice (some ⟨g2, 0, none⟩) d.length c)).setCell ⟨w.heap.size, 1, none⟩ (.int .i64 ps)).setCell ⟨w.heap.size, 2, none⟩ (.bool pp)).setCell ⟨w.heap.size, 3, none⟩ (.int .i64 tk)).setCell ⟨w.heap.size, 4, none⟩ (.bool tp)).setCell ⟨w.heap.size, 5, none⟩ (.int .i64 pd)).cell? ⟨w.heap.size, 5, none⟩ = some (.int .i64 pd) := cell_of_row _ _ 5 _ _ _ rr
                  have ma9_0 : ((((((u10.setCell ⟨w.heap.size, 0, none⟩ (.slice (some ⟨g2, 0, none⟩) d.length c)).setCell ⟨w.heap.size, 1, none⟩ (.int .i64 ps)).setCell ⟨w.heap.size, 2, none⟩ (.bool pp)).setCell ⟨w.heap.size, 3, none⟩ (.int .i64 tk)).setCell ⟨w.heap.size, 4, none⟩ (.bool tp)).setCell ⟨w.heap.size, 5, none⟩ (.int .i64 pd)).cell? ⟨w3.heap.size, 0, none⟩ = some (.slice (some ⟨g2, 0, none⟩) d.length c) := cell_of_row _ _ 0 _ _ _ ra
                  have ma9_1 : ((((((u10.setCell ⟨w.heap.size, 0, none⟩ (.slice (some ⟨g2, 0, none⟩) d.length c)).setCell ⟨w.heap.size, 1, none⟩ (.int .i64 ps)).setCell ⟨w.heap.size, 2, none⟩ (.bool pp)).setCell ⟨w.heap.size, 3, none⟩ (.int .i64 tk)).setCell ⟨w.heap.size, 4, none⟩ (.bool tp)).setCell ⟨w.heap.size, 5, none⟩ (.int .i64 pd)).cell? ⟨w3.heap.size, 1, none⟩ = some (.int .i64 ps) := cell_of_row _ _ 1 _ _ _ ra
                  have ma9_2 : ((((((u10.setCell ⟨w.heap.size, 0, none⟩ (.slice (some ⟨g2, 0, none⟩) d.length c)).setCell ⟨w.heap.size, 1, none⟩ (.int .i64 ps)).setCell ⟨w.heap.size, 2, none⟩ (.bool pp)).setCell ⟨w.heap.size, 3, none⟩ (.int .i64 tk)).setCell ⟨w.heap.size, 4, none⟩ (.bool tp)).setCell ⟨w.heap.size, 5, none⟩ (.int .i64 pd)).cell? ⟨w3.heap.size, 2, none⟩ = some (.bool pp) := cell_of_row _ _ 2 _ _ _ ra
                  have ma9_3 : ((((((u10.setCell ⟨w.heap.size, 0, none⟩ (.slice (some ⟨g2, 0, none⟩) d.length c)).setCell ⟨w.heap.size, 1, none⟩ (.int .i64 ps)).setCell ⟨w.heap.size, 2, none⟩ (.bool pp)).setCell ⟨w.heap.size, 3, none⟩ (.int .i64 tk)).setCell ⟨w.heap.size, 4, none⟩ (.bool tp)).setCell ⟨w.heap.size, 5, none⟩ (.int .i64 pd)).cell? ⟨w3.heap.size, 3, none⟩ = some (.int .i64 tk) := cell_of_row _ _ 3 _ _ _ ra
                  have ma9_4 : ((((((u10.setCell ⟨w.heap.size, 0, none⟩ (.slice (some ⟨g2, 0, none⟩) d.length c)).setCell ⟨w.heap.size, 1, none⟩ (.int .i64 ps)).setCell ⟨w.heap.size, 2, none⟩ (.bool pp)).setCell ⟨w.heap.size, 3, none⟩ (.int .i64 tk)).setCell ⟨w.heap.size, 4, none⟩ (.bool tp)).setCell ⟨w.heap.size, 5, none⟩ (.int .i64 pd)).cell? ⟨w3.heap.size, 4, none⟩ = some (.bool tp) := cell_of_row _ _ 4 _ _ _ ra
                  have ma9_5 : ((((((u10.setCell ⟨w.heap.size, 0, none⟩ (.slice (some ⟨g2, 0, none⟩) d.length c)).setCell ⟨w.heap.size, 1, none⟩ (.int .i64 ps)).setCell ⟨w.heap.size, 2, none⟩ (.bool pp)).setCell ⟨w.heap.size, 3, none⟩ (.int .i64 tk)).setCell ⟨w.heap.size, 4, none⟩ (.bool tp)).setCell ⟨w.heap.size, 5, none⟩ (.int .i64 pd)).cell? ⟨w3.heap.size, 5, none⟩ = some (.int .i64 pd) := cell_of_row _ _ 5 _ _ _ ra
                  go_wp2_with fail
                  refine bodyPost_ret (v := .agg #[.slice (some ⟨g2, 0, none⟩) d.length c, .int .i64 ps, .bool pp, .int .i64 tk, .bool tp, .int .i64 pd]) (by simp only [results, Try.results42]; simp [go_sem, mr12_0, mr12_1, mr12_2, mr12_3, mr12_4, mr12_5]) rfl ?_
                  exact ⟨some ⟨g2, 0, none⟩, c, d3, ps, pp, tk, tp, pd, ((q4 + 1) + 1), by rw [hl3.out], ⟨by rw [hl3.out]; exact o2.wide (by omega) (by omega), by rw [hl3.out]; omega⟩, by omega, hr, hF⟩
                exact AllReadyH.nil
              exact AllReadyH.nil
            exact AllReadyH.nil
          exact AllReadyH.nil
        · have e2 : IntKind.i64.wrap ((d.length : Int) + 1) = (d.length : Int) + 1 := IntWalk.i64_in _ (by omega)
          have e3 : IntKind.i64.wrap (ps + 1) = ps + 1 := IntWalk.i64_in _ (by omega)
          have hzn : ((d.length : Int) + 1 == 0) = false := beq_eq_false_iff_ne.2 (by omega)
          obtain ⟨m2, hm20, hm21, hme⟩ : ∃ m2 : Int, 0 ≤ m2 ∧ m2 ≤ (d.length : Int) ∧ (ps + 1).tmod ((d.length : Int) + 1) = m2 := ⟨_, by rw [Int.tmod_eq_emod_of_nonneg (by omega)]; exact Int.emod_nonneg _ (by omega), by rw [Int.tmod_eq_emod_of_nonneg (by omega)]; have := Int.emod_lt_of_pos (ps + 1) (show 0 < (d.length : Int) + 1 by omega); omega, rfl⟩
          have z8 := frzRow ra 1
          replace rr := rowSet rr ⟨w3.heap.size, 1, none⟩ (.int .i64 m2) (by show _ ≠ w3.heap.size; omega)
          replace ra : (w7.setCell ⟨w3.heap.size, 1, none⟩ (.int .i64 m2)).heap[w3.heap.size]? = some (.cells #[.slice A d.length c, .int .i64 m2, .bool pp, .int .i64 tk, .bool tp, .int .i64 pd] 24 (0, 0)) := by rw [heap_setCell_same _ _ 1 _ _ _ ra]; rfl
          replace o2 := o2.setOther ⟨w3.heap.size, 1, none⟩ (.int .i64 m2) (by show w3.heap.size < _ ∨ _ ≤ w3.heap.size; omega)
          replace hr := rd_setc hr ⟨w3.heap.size, 1, none⟩ (.int .i64 m2) (by show _ < w3.heap.size; omega)
          replace hF := fr_setd hF (p := ⟨w3.heap.size, 1, none⟩) (by show _ ≤ w3.heap.size; omega) (.int .i64 m2)
          have s8 : w7.heap.size ≤ (w7.setCell ⟨w3.heap.size, 1, none⟩ (.int .i64 m2)).heap.size := Nat.le_of_eq (World.size_setCell _ _ _).symm
          have mr9_0 : (w7.setCell ⟨w3.heap.size, 1, none⟩ (.int .i64 m2)).cell? ⟨w.heap.size, 0, none⟩ = some (.slice none 0 0) := cell_of_row _ _ 0 _ _ _ rr
          have mr9_1 : (w7.setCell ⟨w3.heap.size, 1, none⟩ (.int .i64 m2)).cell? ⟨w.heap.size, 1, none⟩ = some (.int .i64 0) := cell_of_row _ _ 1 _ _ _ rr
          have mr9_2 : (w7.setCell ⟨w3.heap.size, 1, none⟩ (.int .i64 m2)).cell? ⟨w.heap.size, 2, none⟩ = some (.bool false) := cell_of_row _ _ 2 _ _ _ rr
          have mr9_3 : (w7.setCell ⟨w3.heap.size, 1, none⟩ (.int .i64 m2)).cell? ⟨w.heap.size, 3, none⟩ = some (.int .i64 0) := cell_of_row _ _ 3 _ _ _ rr
          have mr9_4 : (w7.setCell ⟨w3.heap.size, 1, none⟩ (.int .i64 m2)).cell? ⟨w.heap.size, 4, none⟩ = some (.bool false) := cell_of_row _ _ 4 _ _ _ rr
          have mr9_5 : (w7.setCell ⟨w3.heap.size, 1, none⟩ (.int .i64 m2)).cell? ⟨w.heap.size, 5, none⟩ = some (.int .i64 0) := cell_of_row _ _ 5 _ _ _ rr
          have ma6_0 : (w7.setCell ⟨w3.heap.size, 1, none⟩ (.int .i64 m2)).cell? ⟨w3.heap.size, 0, none⟩ = some (.slice A d.length c) := cell_of_row _ _ 0 _ _ _ ra
          have ma6_1 : (w7.setCell ⟨w3.heap.size, 1, none⟩ (.int .i64 m2)).cell? ⟨w3.heap.size, 1, none⟩ = some (.int .i64 m2) := cell_of_row _ _ 1 _ _ _ ra
          have ma6_2 : (w7.setCell ⟨w3.heap.size, 1, none⟩ (.int .i64 m2)).cell? ⟨w3.heap.size, 2, none⟩ = some (.bool pp) := cell_of_row _ _ 2 _ _ _ ra
          have ma6_3 : (w7.setCell ⟨w3.heap.size, 1, none⟩ (.int .i64 m2)).cell? ⟨w3.heap.size, 3, none⟩ = some (.int .i64 tk) := cell_of_row _ _ 3 _ _ _ ra
          have ma6_4 : (w7.setCell ⟨w3.heap.size, 1, none⟩ (.int .i64 m2)).cell? ⟨w3.heap.size, 4, none⟩ = some (.bool tp) := cell_of_row _ _ 4 _ _ _ ra
          have ma6_5 : (w7.setCell ⟨w3.heap.size, 1, none⟩ (.int .i64 m2)).cell? ⟨w3.heap.size, 5, none⟩ = some (.int .i64 pd) := cell_of_row _ _ 5 _ _ _ ra
          go_upto_region 20 with fail
          clear z8 mr8_0 mr8_1 mr8_2 mr8_3 mr8_4 mr8_5 ma5_0 ma5_1 ma5_2 ma5_3 ma5_4 ma5_5
          generalize (w7.setCell ⟨w3.heap.size, 1, none⟩ (.int .i64 m2)) = u8 at *
          have z9_0 := frzRow rr 0
          have z9_1 := frzRow rr 1
          have z9_2 := frzRow rr 2
          have z9_3 := frzRow rr 3
          have z9_4 := frzRow rr 4
          have z9_5 := frzRow rr 5
          replace ra := rowSet (rowSet (rowSet (rowSet (rowSet (rowSet (ra) ⟨w.heap.size, 0, none⟩ (.slice A d.length c) (by show _ ≠ w.heap.size; omega)) ⟨w.heap.size, 1, none⟩ (.int .i64 m2) (by show _ ≠ w.heap.size; omega)) ⟨w.heap.size, 2, none⟩ (.bool pp) (by show _ ≠ w.heap.size; omega)) ⟨w.heap.size, 3, none⟩ (.int .i64 tk) (by show _ ≠ w.heap.size; omega)) ⟨w.heap.size, 4, none⟩ (.bool tp) (by show _ ≠ w.heap.size; omega)) ⟨w.heap.size, 5, none⟩ (.int .i64 pd) (by show _ ≠ w.heap.size; omega)
          replace rr := put5 (put4 (put3 (put2 (put1 (put0 (rr) (.slice A d.length c)) (.int .i64 m2)) (.bool pp)) (.int .i64 tk)) (.bool tp)) (.int .i64 pd)
          replace o2 := ((((((o2).setOther ⟨w.heap.size, 0, none⟩ (.slice A d.length c) (by show w.heap.size < _ ∨ _ ≤ w.heap.size; omega)).setOther ⟨w.heap.size, 1, none⟩ (.int .i64 m2) (by show w.heap.size < _ ∨ _ ≤ w.heap.size; omega)).setOther ⟨w.heap.size, 2, none⟩ (.bool pp) (by show w.heap.size < _ ∨ _ ≤ w.heap.size; omega)).setOther ⟨w.heap.size, 3, none⟩ (.int .i64 tk) (by show w.heap.size < _ ∨ _ ≤ w.heap.size; omega)).setOther ⟨w.heap.size, 4, none⟩ (.bool tp) (by show w.heap.size < _ ∨ _ ≤ w.heap.size; omega)).setOther ⟨w.heap.size, 5, none⟩ (.int .i64 pd) (by show w.heap.size < _ ∨ _ ≤ w.heap.size; omega)
          replace hr := rd_setc (rd_setc (rd_setc (rd_setc (rd_setc (rd_setc (hr) ⟨w.heap.size, 0, none⟩ (.slice A d.length c) (by show _ < w.heap.size; omega)) ⟨w.heap.size, 1, none⟩ (.int .i64 m2) (by show _ < w.heap.size; omega)) ⟨w.heap.size, 2, none⟩ (.bool pp) (by show _ < w.heap.size; omega)) ⟨w.heap.size, 3, none⟩ (.int .i64 tk) (by show _ < w.heap.size; omega)) ⟨w.heap.size, 4, none⟩ (.bool tp) (by show _ < w.heap.size; omega)) ⟨w.heap.size, 5, none⟩ (.int .i64 pd) (by show _ < w.heap.size; omega)
          replace hF := fr_setd (fr_setd (fr_setd (fr_setd (fr_setd (fr_setd (hF) (p := ⟨w.heap.size, 0, none⟩) (by show _ ≤ w.heap.size; omega) (.slice A d.length c)) (p := ⟨w.heap.size, 1, none⟩) (by show _ ≤ w.heap.size; omega) (.int .i64 m2)) (p := ⟨w.heap.size, 2, none⟩) (by show _ ≤ w.heap.size; omega) (.bool pp)) (p := ⟨w.heap.size, 3, none⟩) (by show _ ≤ w.heap.size; omega) (.int .i64 tk)) (p := ⟨w.heap.size, 4, none⟩) (by show _ ≤ w.heap.size; omega) (.bool tp)) (p := ⟨w.heap.size, 5, none⟩) (by show _ ≤ w.heap.size; omega) (.int .i64 pd)
          have s9 : u8.heap.size ≤ ((((((u8.setCell ⟨w.heap.size, 0, none⟩ (.slice A d.length c)).setCell ⟨w.heap.size, 1, none⟩ (.int .i64 m2)).setCell ⟨w.heap.size, 2, none⟩ (.bool pp)).setCell ⟨w.heap.size, 3, none⟩ (.int .i64 tk)).setCell ⟨w.heap.size, 4, none⟩ (.bool tp)).setCell ⟨w.heap.size, 5, none⟩ (.int .i64 pd)).heap.size := by simp only [World.size_setCell]; exact Nat.le_refl _
          have mr10_0 : ((((((u8.setCell ⟨w.heap.size, 0, none⟩ (.slice A d.length c)).setCell ⟨w.heap.size, 1, none⟩ (.int .i64 m2)).setCell ⟨w.heap.size, 2, none⟩ (.bool pp)).setCell ⟨w.heap.size, 3, none⟩ (.int .i64 tk)).setCell ⟨w.heap.size, 4, none⟩ (.bool tp)).setCell ⟨w.heap.size, 5, none⟩ (.int .i64 pd)).cell? ⟨w.heap.size, 0, none⟩ = some (.slice A d.length c) := cell_of_row _ _ 0 _ _ _ rr
          have mr10_1 : ((((((u8.setCell ⟨w.heap.size, 0, none⟩ (.slice A d.length c)).setCell ⟨w.heap.size, 1, none⟩ (.int .i64 m2)).setCell ⟨w.heap.size, 2, none⟩ (.bool pp)).setCell ⟨w.heap.size, 3, none⟩ (.int .i64 tk)).setCell ⟨w.heap.size, 4, none⟩ (.bool tp)).setCell ⟨w.heap.size, 5, none⟩ (.int .i64 pd)).cell? ⟨w.heap.size, 1, none⟩ = some (.int .i64 m2) := cell_of_row _ _ 1 _ _ _ rr
          have mr10_2 : ((((((u8.setCell ⟨w.heap.size, 0, none⟩ (.slice A d.length c)).setCell ⟨w.heap.size, 1, none⟩ (.int .i64 m2)).setCell ⟨w.heap.size, 2, none⟩ (.bool pp)).setCell ⟨w.heap.size, 3, none⟩ (.int .i64 tk)).setCell ⟨w.heap.size, 4, none⟩ (.bool tp)).setCell ⟨w.heap.size, 5, none⟩ (.int .i64 pd)).cell? ⟨w.heap.size, 2, none⟩ = some (.bool pp) := cell_of_row _ _ 2 _ _ _ rr
          have mr10_3 : ((((((u8.setCell ⟨w.heap.size, 0, none⟩ (.slice A d.length c)).setCell ⟨w.heap.size, 1, none⟩ (.int .i64 m2)).setCell ⟨w.heap.size, 2, none⟩ (.bool pp)).setCell ⟨w.heap.size, 3, none⟩ (.int .i64 tk)).setCell ⟨w.heap.size, 4, none⟩ (.bool tp)).setCell ⟨w.heap.size, 5, none⟩ (.int .i64 pd)).cell? ⟨w.heap.size, 3, none⟩ = some (.int .i64 tk) := cell_of_row _ _ 3 _ _ _ rr
          have mr10_4 : ((((((u8.setCell ⟨w.heap.size, 0, none⟩ (.slice A d.length c)).setCell ⟨w.heap.size, 1, none⟩ (.int .i64 m2)).setCell ⟨w.heap.size, 2, none⟩ (.bool pp)).setCell ⟨w.heap.size, 3, none⟩ (.int .i64 tk)).setCell ⟨w.heap.size, 4, none⟩ (.bool tp)).setCell ⟨w.heap.size, 5, none⟩ (.int .i64 pd)).cell? ⟨w.heap.size, 4, none⟩ = some (.bool tp) := cell_of_row _ _ 4 _ _ _ rr
          have mr10_5 : ((((((u8.setCell ⟨w.heap.size, 0, none⟩ (.slice A d.length c)).setCell ⟨w.heap.size, 1, none⟩ (.int .i64 m2)).setCell ⟨w.heap.size, 2, none⟩ (.bool pp)).setCell ⟨w.heap.size, 3, none⟩ (.int .i64 tk)).setCell ⟨w.heap.size, 4, none⟩ (.bool tp)).setCell ⟨w.heap.size, 5, none⟩ (.int .i64 pd)).cell? ⟨w.heap.size, 5, none⟩ = some (.int .i64 pd) := cell_of_row _ _ 5 _ _ _ rr
          have ma7_0 : ((((((u8.setCell ⟨w.heap.size, 0, none⟩ (.slice A d.length c)).setCell ⟨w.heap.size, 1, none⟩ (.int .i64 m2)).setCell ⟨w.heap.size, 2, none⟩ (.bool pp)).setCell ⟨w.heap.size, 3, none⟩ (.int .i64 tk)).setCell ⟨w.heap.size, 4, none⟩ (.bool tp)).setCell ⟨w.heap.size, 5, none⟩ (.int .i64 pd)).cell? ⟨w3.heap.size, 0, none⟩ = some (.slice A d.length c) := cell_of_row _ _ 0 _ _ _ ra
          have ma7_1 : ((((((u8.setCell ⟨w.heap.size, 0, none⟩ (.slice A d.length c)).setCell ⟨w.heap.size, 1, none⟩ (.int .i64 m2)).setCell ⟨w.heap.size, 2, none⟩ (.bool pp)).setCell ⟨w.heap.size, 3, none⟩ (.int .i64 tk)).setCell ⟨w.heap.size, 4, none⟩ (.bool tp)).setCell ⟨w.heap.size, 5, none⟩ (.int .i64 pd)).cell? ⟨w3.heap.size, 1, none⟩ = some (.int .i64 m2) := cell_of_row _ _ 1 _ _ _ ra
          have ma7_2 : ((((((u8.setCell ⟨w.heap.size, 0, none⟩ (.slice A d.length c)).setCell ⟨w.heap.size, 1, none⟩ (.int .i64 m2)).setCell ⟨w.heap.size, 2, none⟩ (.bool pp)).setCell ⟨w.heap.size, 3, none⟩ (.int .i64 tk)).setCell ⟨w.heap.size, 4, none⟩ (.bool tp)).setCell ⟨w.heap.size, 5, none⟩ (.int .i64 pd)).cell? ⟨w3.heap.size, 2, none⟩ = some (.bool pp) := cell_of_row _ _ 2 _ _ _ ra
          have ma7_3 : ((((((u8.setCell ⟨w.heap.size, 0, none⟩ (.slice A d.length c)).setCell ⟨w.heap.size, 1, none⟩ (.int .i64 m2)).setCell ⟨w.heap.size, 2, none⟩ (.bool pp)).setCell ⟨w.heap.size, 3, none⟩ (.int .i64 tk)).setCell ⟨w.heap.size, 4, none⟩ (.bool tp)).setCell ⟨w.heap.size, 5, none⟩ (.int .i64 pd)).cell? ⟨w3.heap.size, 3, none⟩ = some (.int .i64 tk) := cell_of_row _ _ 3 _ _ _ ra
          have ma7_4 : ((((((u8.setCell ⟨w.heap.size, 0, none⟩ (.slice A d.length c)).setCell ⟨w.heap.size, 1, none⟩ (.int .i64 m2)).setCell ⟨w.heap.size, 2, none⟩ (.bool pp)).setCell ⟨w.heap.size, 3, none⟩ (.int .i64 tk)).setCell ⟨w.heap.size, 4, none⟩ (.bool tp)).setCell ⟨w.heap.size, 5, none⟩ (.int .i64 pd)).cell? ⟨w3.heap.size, 4, none⟩ = some (.bool tp) := cell_of_row _ _ 4 _ _ _ ra
          have ma7_5 : ((((((u8.setCell ⟨w.heap.size, 0, none⟩ (.slice A d.length c)).setCell ⟨w.heap.size, 1, none⟩ (.int .i64 m2)).setCell ⟨w.heap.size, 2, none⟩ (.bool pp)).setCell ⟨w.heap.size, 3, none⟩ (.int .i64 tk)).setCell ⟨w.heap.size, 4, none⟩ (.bool tp)).setCell ⟨w.heap.size, 5, none⟩ (.int .i64 pd)).cell? ⟨w3.heap.size, 5, none⟩ = some (.int .i64 pd) := cell_of_row _ _ 5 _ _ _ ra
          go_wp2_with fail
          refine bodyPost_ret (v := .agg #[.slice A d.length c, .int .i64 m2, .bool pp, .int .i64 tk, .bool tp, .int .i64 pd]) (by simp only [results, Try.results42]; simp [go_sem, mr10_0, mr10_1, mr10_2, mr10_3, mr10_4, mr10_5]) rfl ?_
          exact ⟨_, _, d, m2, pp, tk, tp, pd, (q4 + 1), rfl, ⟨o2.wide (by omega) (by omega), by omega⟩, by omega, hr, hF⟩
        · have z8 := frzRow ra 4
          replace rr := rowSet rr ⟨w3.heap.size, 4, none⟩ (.bool (!tp)) (by show _ ≠ w3.heap.size; omega)
          replace ra : (w7.setCell ⟨w3.heap.size, 4, none⟩ (.bool (!tp))).heap[w3.heap.size]? = some (.cells #[.slice A d.length c, .int .i64 ps, .bool pp, .int .i64 tk, .bool (!tp), .int .i64 pd] 24 (0, 0)) := by rw [heap_setCell_same _ _ 4 _ _ _ ra]; rfl
          replace o2 := o2.setOther ⟨w3.heap.size, 4, none⟩ (.bool (!tp)) (by show w3.heap.size < _ ∨ _ ≤ w3.heap.size; omega)
          replace hr := rd_setc hr ⟨w3.heap.size, 4, none⟩ (.bool (!tp)) (by show _ < w3.heap.size; omega)
          replace hF := fr_setd hF (p := ⟨w3.heap.size, 4, none⟩) (by show _ ≤ w3.heap.size; omega) (.bool (!tp))
          have s8 : w7.heap.size ≤ (w7.setCell ⟨w3.heap.size, 4, none⟩ (.bool (!tp))).heap.size := Nat.le_of_eq (World.size_setCell _ _ _).symm
          have mr9_0 : (w7.setCell ⟨w3.heap.size, 4, none⟩ (.bool (!tp))).cell? ⟨w.heap.size, 0, none⟩ = some (.slice none 0 0) := cell_of_row _ _ 0 _ _ _ rr
          have mr9_1 : (w7.setCell ⟨w3.heap.size, 4, none⟩ (.bool (!tp))).cell? ⟨w.heap.size, 1, none⟩ = some (.int .i64 0) := cell_of_row _ _ 1 _ _ _ rr
          have mr9_2 : (w7.setCell ⟨w3.heap.size, 4, none⟩ (.bool (!tp))).cell? ⟨w.heap.size, 2, none⟩ = some (.bool false) := cell_of_row _ _ 2 _ _ _ rr
          have mr9_3 : (w7.setCell ⟨w3.heap.size, 4, none⟩ (.bool (!tp))).cell? ⟨w.heap.size, 3, none⟩ = some (.int .i64 0) := cell_of_row _ _ 3 _ _ _ rr
          have mr9_4 : (w7.setCell ⟨w3.heap.size, 4, none⟩ (.bool (!tp))).cell? ⟨w.heap.size, 4, none⟩ = some (.bool false) := cell_of_row _ _ 4 _ _ _ rr
          have mr9_5 : (w7.setCell ⟨w3.heap.size, 4, none⟩ (.bool (!tp))).cell? ⟨w.heap.size, 5, none⟩ = some (.int .i64 0) := cell_of_row _ _ 5 _ _ _ rr
          have ma6_0 : (w7.setCell ⟨w3.heap.size, 4, none⟩ (.bool (!tp))).cell? ⟨w3.heap.size, 0, none⟩ = some (.slice A d.length c) := cell_of_row _ _ 0 _ _ _ ra
          have ma6_1 : (w7.setCell ⟨w3.heap.size, 4, none⟩ (.bool (!tp))).cell? ⟨w3.heap.size, 1, none⟩ = some (.int .i64 ps) := cell_of_row _ _ 1 _ _ _ ra
          have ma6_2 : (w7.setCell ⟨w3.heap.size, 4, none⟩ (.bool (!tp))).cell? ⟨w3.heap.size, 2, none⟩ = some (.bool pp) := cell_of_row _ _ 2 _ _ _ ra
          have ma6_3 : (w7.setCell ⟨w3.heap.size, 4, none⟩ (.bool (!tp))).cell? ⟨w3.heap.size, 3, none⟩ = some (.int .i64 tk) := cell_of_row _ _ 3 _ _ _ ra
          have ma6_4 : (w7.setCell ⟨w3.heap.size, 4, none⟩ (.bool (!tp))).cell? ⟨w3.heap.size, 4, none⟩ = some (.bool (!tp)) := cell_of_row _ _ 4 _ _ _ ra
          have ma6_5 : (w7.setCell ⟨w3.heap.size, 4, none⟩ (.bool (!tp))).cell? ⟨w3.heap.size, 5, none⟩ = some (.int .i64 pd) := cell_of_row _ _ 5 _ _ _ ra
          go_upto_region 20 with fail
          clear z8 mr8_0 mr8_1 mr8_2 mr8_3 mr8_4 mr8_5 ma5_0 ma5_1 ma5_2 ma5_3 ma5_4 ma5_5
          generalize (w7.setCell ⟨w3.heap.size, 4, none⟩ (.bool (!tp))) = u8 at *
          have z9_0 := frzRow rr 0
          have z9_1 := frzRow rr 1
          have z9_2 := frzRow rr 2
          have z9_3 := frzRow rr 3
          have z9_4 := frzRow rr 4
          have z9_5 := frzRow rr 5
          replace ra := rowSet (rowSet (rowSet (rowSet (rowSet (rowSet (ra) ⟨w.heap.size, 0, none⟩ (.slice A d.length c) (by show _ ≠ w.heap.size; omega)) ⟨w.heap.size, 1, none⟩ (.int .i64 ps) (by show _ ≠ w.heap.size; omega)) ⟨w.heap.size, 2, none⟩ (.bool pp) (by show _ ≠ w.heap.size; omega)) ⟨w.heap.size, 3, none⟩ (.int .i64 tk) (by show _ ≠ w.heap.size; omega)) ⟨w.heap.size, 4, none⟩ (.bool (!tp)) (by show _ ≠ w.heap.size; omega)) ⟨w.heap.size, 5, none⟩ (.int .i64 pd) (by show _ ≠ w.heap.size; omega)
          replace rr := put5 (put4 (put3 (put2 (put1 (put0 (rr) (.slice A d.length c)) (.int .i64 ps)) (.bool pp)) (.int .i64 tk)) (.bool (!tp))) (.int .i64 pd)
          replace o2 := ((((((o2).setOther ⟨w.heap.size, 0, none⟩ (.slice A d.length c) (by show w.heap.size < _ ∨ _ ≤ w.heap.size; omega)).setOther ⟨w.heap.size, 1, none⟩ (.int .i64 ps) (by show w.heap.size < _ ∨ _ ≤ w.heap.size; omega)).setOther ⟨w.heap.size, 2, none⟩ (.bool pp) (by show w.heap.size < _ ∨ _ ≤ w.heap.size; omega)).setOther ⟨w.heap.size, 3, none⟩ (.int .i64 tk) (by show w.heap.size < _ ∨ _ ≤ w.heap.size; omega)).setOther ⟨w.heap.size, 4, none⟩ (.bool (!tp)) (by show w.heap.size < _ ∨ _ ≤ w.heap.size; omega)).setOther ⟨w.heap.size, 5, none⟩ (.int .i64 pd) (by show w.heap.size < _ ∨ _ ≤ w.heap.size; omega)
          replace hr := rd_setc (rd_setc (rd_setc (rd_setc (rd_setc (rd_setc (hr) ⟨w.heap.size, 0, none⟩ (.slice A d.length c) (by show _ < w.heap.size; omega)) ⟨w.heap.size, 1, none⟩ (.int .i64 ps) (by show _ < w.heap.size; omega)) ⟨w.heap.size, 2, none⟩ (.bool pp) (by show _ < w.heap.size; omega)) ⟨w.heap.size, 3, none⟩ (.int .i64 tk) (by show _ < w.heap.size; omega)) ⟨w.heap.size, 4, none⟩ (.bool (!tp)) (by show _ < w.heap.size; omega)) ⟨w.heap.size, 5, none⟩ (.int .i64 pd) (by show _ < w.heap.size; omega)
          replace hF := fr_setd (fr_setd (fr_setd (fr_setd (fr_setd (fr_setd (hF) (p := ⟨w.heap.size, 0, none⟩) (by show _ ≤ w.heap.size; omega) (.slice A d.length c)) (p := ⟨w.heap.size, 1, none⟩) (by show _ ≤ w.heap.size; omega) (.int .i64 ps)) (p := ⟨w.heap.size, 2, none⟩) (by show _ ≤ w.heap.size; omega) (.bool pp)) (p := ⟨w.heap.size, 3, none⟩) (by show _ ≤ w.heap.size; omega) (.int .i64 tk)) (p := ⟨w.heap.size, 4, none⟩) (by show _ ≤ w.heap.size; omega) (.bool (!tp))) (p := ⟨w.heap.size, 5, none⟩) (by show _ ≤ w.heap.size; omega) (.int .i64 pd)
          have s9 : u8.heap.size ≤ ((((((u8.setCell ⟨w.heap.size, 0, none⟩ (.slice A d.length c)).setCell ⟨w.heap.size, 1, none⟩ (.int .i64 ps)).setCell ⟨w.heap.size, 2, none⟩ (.bool pp)).setCell ⟨w.heap.size, 3, none⟩ (.int .i64 tk)).setCell ⟨w.heap.size, 4, none⟩ (.bool (!tp))).setCell ⟨w.heap.size, 5, none⟩ (.int .i64 pd)).heap.size := by simp only [World.size_setCell]; exact Nat.le_refl _
          have mr10_0 : ((((((u8.setCell ⟨w.heap.size, 0, none⟩ (.slice A d.length c)).setCell ⟨w.heap.size, 1, none⟩ (.int .i64 ps)).setCell ⟨w.heap.size, 2, none⟩ (.bool pp)).setCell ⟨w.heap.size, 3, none⟩ (.int .i64 tk)).setCell ⟨w.heap.size, 4, none⟩ (.bool (!tp))).setCell ⟨w.heap.size, 5, none⟩ (.int .i64 pd)).cell? ⟨w.heap.size, 0, none⟩ = some (.slice A d.length c) := cell_of_row _ _ 0 _ _ _ rr
          have mr10_1 : ((((((u8.setCell ⟨w.heap.size, 0, none⟩ (.slice A d.length c)).setCell ⟨w.heap.size, 1, none⟩ (.int .i64 ps)).setCell ⟨w.heap.size, 2, none⟩ (.bool pp)).setCell ⟨w.heap.size, 3, none⟩ (.int .i64 tk)).setCell ⟨w.heap.size, 4, none⟩ (.bool (!tp))).setCell ⟨w.heap.size, 5, none⟩ (.int .i64 pd)).cell? ⟨w.heap.size, 1, none⟩ = some (.int .i64 ps) := cell_of_row _ _ 1 _ _ _ rr
          have mr10_2 : ((((((u8.setCell ⟨w.heap.size, 0, none⟩ (.slice A d.length c)).setCell ⟨w.heap.size, 1, none⟩ (.int .i64 ps)).setCell ⟨w.heap.size, 2, none⟩ (.bool pp)).setCell ⟨w.heap.size, 3, none⟩ (.int .i64 tk)).setCell ⟨w.heap.size, 4, none⟩ (.bool (!tp))).setCell ⟨w.heap.size, 5, none⟩ (.int .i64 pd)).cell? ⟨w.heap.size, 2, none⟩ = some (.bool pp) := cell_of_row _ _ 2 _ _ _ rr
          have mr10_3 : ((((((u8.setCell ⟨w.heap.size, 0, none⟩ (.slice A d.length c)).setCell ⟨w.heap.size, 1, none⟩ (.int .i64 ps)).setCell ⟨w.heap.size, 2, none⟩ (.bool pp)).setCell ⟨w.heap.size, 3, none⟩ (.int .i64 tk)).setCell ⟨w.heap.size, 4, none⟩ (.bool (!tp))).setCell ⟨w.heap.size, 5, none⟩ (.int .i64 pd)).cell? ⟨w.heap.size, 3, none⟩ = some (.int .i64 tk) := cell_of_row _ _ 3 _ _ _ rr
          have mr10_4 : ((((((u8.setCell ⟨w.heap.size, 0, none⟩ (.slice A d.length c)).setCell ⟨w.heap.size, 1, none⟩ (.int .i64 ps)).setCell ⟨w.heap.size, 2, none⟩ (.bool pp)).setCell ⟨w.heap.size, 3, none⟩ (.int .i64 tk)).setCell ⟨w.heap.size, 4, none⟩ (.bool (!tp))).setCell ⟨w.heap.size, 5, none⟩ (.int .i64 pd)).cell? ⟨w.heap.size, 4, none⟩ = some (.bool (!tp)) := cell_of_row _ _ 4 _ _ _ rr
          have mr10_5 : ((((((u8.setCell ⟨w.heap.size, 0, none⟩ (.slice A d.length c)).setCell ⟨w.heap.size, 1, none⟩ (.int .i64 ps)).setCell ⟨w.heap.size, 2, none⟩ (.bool pp)).setCell ⟨w.heap.size, 3, none⟩ (.int .i64 tk)).setCell ⟨w.heap.size, 4, none⟩ (.bool (!tp))).setCell ⟨w.heap.size, 5, none⟩ (.int .i64 pd)).cell? ⟨w.heap.size, 5, none⟩ = some (.int .i64 pd) := cell_of_row _ _ 5 _ _ _ rr
          have ma7_0 : ((((((u8.setCell ⟨w.heap.size, 0, none⟩ (.slice A d.length c)).setCell ⟨w.heap.size, 1, none⟩ (.int .i64 ps)).setCell ⟨w.heap.size, 2, none⟩ (.bool pp)).setCell ⟨w.heap.size, 3, none⟩ (.int .i64 tk)).setCell ⟨w.heap.size, 4, none⟩ (.bool (!tp))).setCell ⟨w.heap.size, 5, none⟩ (.int .i64 pd)).cell? ⟨w3.heap.size, 0, none⟩ = some (.slice A d.length c) := cell_of_row _ _ 0 _ _ _ ra
          have ma7_1 : ((((((u8.setCell ⟨w.heap.size, 0, none⟩ (.slice A d.length c)).setCell ⟨w.heap.size, 1, none⟩ (.int .i64 ps)).setCell ⟨w.heap.size, 2, none⟩ (.bool pp)).setCell ⟨w.heap.size, 3, none⟩ (.int .i64 tk)).setCell ⟨w.heap.size, 4, none⟩ (.bool (!tp))).setCell ⟨w.heap.size, 5, none⟩ (.int .i64 pd)).cell? ⟨w3.heap.size, 1, none⟩ = some (.int .i64 ps) := cell_of_row _ _ 1 _ _ _ ra
          have ma7_2 : ((((((u8.setCell ⟨w.heap.size, 0, none⟩ (.slice A d.length c)).setCell ⟨w.heap.size, 1, none⟩ (.int .i64 ps)).setCell ⟨w.heap.size, 2, none⟩ (.bool pp)).setCell ⟨w.heap.size, 3, none⟩ (.int .i64 tk)).setCell ⟨w.heap.size, 4, none⟩ (.bool (!tp))).setCell ⟨w.heap.size, 5, none⟩ (.int .i64 pd)).cell? ⟨w3.heap.size, 2, none⟩ = some (.bool pp) := cell_of_row _ _ 2 _ _ _ ra
          have ma7_3 : ((((((u8.setCell ⟨w.heap.size, 0, none⟩ (.slice A d.length c)).setCell ⟨w.heap.size, 1, none⟩ (.int .i64 ps)).setCell ⟨w.heap.size, 2, none⟩ (.bool pp)).setCell ⟨w.heap.size, 3, none⟩ (.int .i64 tk)).setCell ⟨w.heap.size, 4, none⟩ (.bool (!tp))).setCell ⟨w.heap.size, 5, none⟩ (.int .i64 pd)).cell? ⟨w3.heap.size, 3, none⟩ = some (.int .i64 tk) := cell_of_row _ _ 3 _ _ _ ra
          have ma7_4 : ((((((u8.setCell ⟨w.heap.size, 0, none⟩ (.slice A d.length c)).setCell ⟨w.heap.size, 1, none⟩ (.int .i64 ps)).setCell ⟨w.heap.size, 2, none⟩ (.bool pp)).setCell ⟨w.heap.size, 3, none⟩ (.int .i64 tk)).setCell ⟨w.heap.size, 4, none⟩ (.bool (!tp))).setCell ⟨w.heap.size, 5, none⟩ (.int .i64 pd)).cell? ⟨w3.heap.size, 4, none⟩ = some (.bool (!tp)) := cell_of_row _ _ 4 _ _ _ ra
          have ma7_5 : ((((((u8.setCell ⟨w.heap.size, 0, none⟩ (.slice A d.length c)).setCell ⟨w.heap.size, 1, none⟩ (.int .i64 ps)).setCell ⟨w.heap.size, 2, none⟩ (.bool pp)).setCell ⟨w.heap.size, 3, none⟩ (.int .i64 tk)).setCell ⟨w.heap.size, 4, none⟩ (.bool (!tp))).setCell ⟨w.heap.size, 5, none⟩ (.int .i64 pd)).cell? ⟨w3.heap.size, 5, none⟩ = some (.int .i64 pd) := cell_of_row _ _ 5 _ _ _ ra
          go_wp2_with fail
          refine bodyPost_ret (v := .agg #[.slice A d.length c, .int .i64 ps, .bool pp, .int .i64 tk, .bool (!tp), .int .i64 pd]) (by simp only [results, Try.results42]; simp [go_sem, mr10_0, mr10_1, mr10_2, mr10_3, mr10_4, mr10_5]) rfl ?_
          exact ⟨_, _, d, ps, pp, tk, (!tp), pd, (q4 + 1), rfl, ⟨o2.wide (by omega) (by omega), by omega⟩, by omega, hr, hF⟩
        · have hn8 := below_new w7 (.cells #[.int .i64 0, .int .i64 17] 3)
          replace rr := rowKeep rr hn8
          replace ra := rowKeep ra hn8
          replace o2 := o2.below hn8
          replace hr := hr.below hn8
          replace hF := fr_below hF hn8
          have mr9_0 : (w7.alloc (.cells #[.int .i64 0, .int .i64 17] 3)).cell? ⟨w.heap.size, 0, none⟩ = some (.slice none 0 0) := cell_of_row _ _ 0 _ _ _ rr
          have mr9_1 : (w7.alloc (.cells #[.int .i64 0, .int .i64 17] 3)).cell? ⟨w.heap.size, 1, none⟩ = some (.int .i64 0) := cell_of_row _ _ 1 _ _ _ rr
          have mr9_2 : (w7.alloc (.cells #[.int .i64 0, .int .i64 17] 3)).cell? ⟨w.heap.size, 2, none⟩ = some (.bool false) := cell_of_row _ _ 2 _ _ _ rr
          have mr9_3 : (w7.alloc (.cells #[.int .i64 0, .int .i64 17] 3)).cell? ⟨w.heap.size, 3, none⟩ = some (.int .i64 0) := cell_of_row _ _ 3 _ _ _ rr
          have mr9_4 : (w7.alloc (.cells #[.int .i64 0, .int .i64 17] 3)).cell? ⟨w.heap.size, 4, none⟩ = some (.bool false) := cell_of_row _ _ 4 _ _ _ rr
          have mr9_5 : (w7.alloc (.cells #[.int .i64 0, .int .i64 17] 3)).cell? ⟨w.heap.size, 5, none⟩ = some (.int .i64 0) := cell_of_row _ _ 5 _ _ _ rr
          have ma6_0 : (w7.alloc (.cells #[.int .i64 0, .int .i64 17] 3)).cell? ⟨w3.heap.size, 0, none⟩ = some (.slice A d.length c) := cell_of_row _ _ 0 _ _ _ ra
          have ma6_1 : (w7.alloc (.cells #[.int .i64 0, .int .i64 17] 3)).cell? ⟨w3.heap.size, 1, none⟩ = some (.int .i64 ps) := cell_of_row _ _ 1 _ _ _ ra
          have ma6_2 : (w7.alloc (.cells #[.int .i64 0, .int .i64 17] 3)).cell? ⟨w3.heap.size, 2, none⟩ = some (.bool pp) := cell_of_row _ _ 2 _ _ _ ra
          have ma6_3 : (w7.alloc (.cells #[.int .i64 0, .int .i64 17] 3)).cell? ⟨w3.heap.size, 3, none⟩ = some (.int .i64 tk) := cell_of_row _ _ 3 _ _ _ ra
          have ma6_4 : (w7.alloc (.cells #[.int .i64 0, .int .i64 17] 3)).cell? ⟨w3.heap.size, 4, none⟩ = some (.bool tp) := cell_of_row _ _ 4 _ _ _ ra
          have ma6_5 : (w7.alloc (.cells #[.int .i64 0, .int .i64 17] 3)).cell? ⟨w3.heap.size, 5, none⟩ = some (.int .i64 pd) := cell_of_row _ _ 5 _ _ _ ra
          clear hn8
          have s8 : w7.heap.size < (w7.alloc (.cells #[.int .i64 0, .int .i64 17] 3)).heap.size := Nat.lt_of_lt_of_eq (Nat.lt_succ_self _) (World.size_alloc _ _).symm
          have rl : (w7.alloc (.cells #[.int .i64 0, .int .i64 17] 3)).heap[w7.heap.size]? = some (.cells #[.int .i64 0, .int .i64 17] 3 (0, 0)) := by have q := heap_alloc_new w7 (.cells #[.int .i64 0, .int .i64 17] 3); (try simp only [World.size_alloc, World.size_setCell] at q); exact q
          go_wp2_with fail
          clear mr8_0 mr8_1 mr8_2 mr8_3 mr8_4 mr8_5 ma5_0 ma5_1 ma5_2 ma5_3 ma5_4 ma5_5
          generalize (w7.alloc (.cells #[.int .i64 0, .int .i64 17] 3)) = u8 at *
          refine (pick_any (R) ((q4 + 1)) (2) _ hr (by omega)).mono ?_
          rintro e w9 ⟨i2, rfl, h9, q9, f9, e9⟩
          have s9 := f9.size
          clear hr
          have hr := q9
          clear q9
          clear mr9_0 mr9_1 mr9_2 mr9_3 mr9_4 mr9_5
          clear ma6_0 ma6_1 ma6_2 ma6_3 ma6_4 ma6_5
          replace rr := rowFr rr f9 (by omega)
          replace ra := rowFr ra f9 (by omega)
          replace rl := rowFr rl f9 (by omega)
          replace o2 := o2.fr f9 (by omega)
          replace hF := hF.trans f9
          have mr10_0 : w9.cell? ⟨w.heap.size, 0, none⟩ = some (.slice none 0 0) := cell_of_row _ _ 0 _ _ _ rr
          have mr10_1 : w9.cell? ⟨w.heap.size, 1, none⟩ = some (.int .i64 0) := cell_of_row _ _ 1 _ _ _ rr
          have mr10_2 : w9.cell? ⟨w.heap.size, 2, none⟩ = some (.bool false) := cell_of_row _ _ 2 _ _ _ rr
          have mr10_3 : w9.cell? ⟨w.heap.size, 3, none⟩ = some (.int .i64 0) := cell_of_row _ _ 3 _ _ _ rr
          have mr10_4 : w9.cell? ⟨w.heap.size, 4, none⟩ = some (.bool false) := cell_of_row _ _ 4 _ _ _ rr
          have mr10_5 : w9.cell? ⟨w.heap.size, 5, none⟩ = some (.int .i64 0) := cell_of_row _ _ 5 _ _ _ rr
          have ma7_0 : w9.cell? ⟨w3.heap.size, 0, none⟩ = some (.slice A d.length c) := cell_of_row _ _ 0 _ _ _ ra
          have ma7_1 : w9.cell? ⟨w3.heap.size, 1, none⟩ = some (.int .i64 ps) := cell_of_row _ _ 1 _ _ _ ra
          have ma7_2 : w9.cell? ⟨w3.heap.size, 2, none⟩ = some (.bool pp) := cell_of_row _ _ 2 _ _ _ ra
          have ma7_3 : w9.cell? ⟨w3.heap.size, 3, none⟩ = some (.int .i64 tk) := cell_of_row _ _ 3 _ _ _ ra
          have ma7_4 : w9.cell? ⟨w3.heap.size, 4, none⟩ = some (.bool tp) := cell_of_row _ _ 4 _ _ _ ra
          have ma7_5 : w9.cell? ⟨w3.heap.size, 5, none⟩ = some (.int .i64 pd) := cell_of_row _ _ 5 _ _ _ ra
          clear f9
          obtain ⟨i20, i21⟩ : 0 ≤ i2 ∧ i2 < 2 := by omega
          clear h9 e9
          rcases (show i2 = 0 ∨ i2 = 1 from by omega) with rfl | rfl
          · have hcv : w9.cell? ⟨w7.heap.size, 0, none⟩ = some (.int .i64 0) := cell_of_row _ _ 0 _ _ _ rl
            obtain ⟨i0, hi0, hz0, hz1, hz2⟩ := info_parts ans_info
            have hmk := run_make_rowN (P := Try.prog) 22 46 i0 (.agg #[.int .i64 0, .bool false]) Try.underlying22 hi0 hz0 .i64 .i64 0 0 (Nat.le_refl _) (by rw [hz2]; omega) (by omega)
            rw [hz1] at hmk
            simp only [Value.cells] at hmk
            rw [show ((0 : Nat) : Int) = 0 from rfl] at hmk
            clear hz1 hz2 hz0 hi0
            have om := Own.made (w := w9) (e := 46) (cur := madeCells #[.int .i64 0, .bool false] (0 * 2)) (s := 2) (n := 0) (c := 0) (xs := ansC (List.replicate 0 (0, false))) (lo := w9.heap.size) (hi := w9.heap.size + 1) (size_madeCells _ _).symm (Nat.le_refl _) (by omega) (by rw [ansC_made]; exact List.take_of_length_le (by rw [ansC_length, List.length_replicate]; exact Nat.le_refl _)) (Nat.le_refl _) (Nat.lt_succ_self _)
            have hn10 := below_new w9 (.cells (madeCells #[.int .i64 0, .bool false] (0 * 2)) 46)
            replace rr := rowKeep rr hn10
            replace ra := rowKeep ra hn10
            replace rl := rowKeep rl hn10
            replace o2 := o2.below hn10
            replace hr := hr.below hn10
            replace hF := fr_below hF hn10
            have mr11_0 : (w9.alloc (.cells (madeCells #[.int .i64 0, .bool false] (0 * 2)) 46)).cell? ⟨w.heap.size, 0, none⟩ = some (.slice none 0 0) := cell_of_row _ _ 0 _ _ _ rr
            have mr11_1 : (w9.alloc (.cells (madeCells #[.int .i64 0, .bool false] (0 * 2)) 46)).cell? ⟨w.heap.size, 1, none⟩ = some (.int .i64 0) := cell_of_row _ _ 1 _ _ _ rr
            have mr11_2 : (w9.alloc (.cells (madeCells #[.int .i64 0, .bool false] (0 * 2)) 46)).cell? ⟨w.heap.size, 2, none⟩ = some (.bool false) := cell_of_row _ _ 2 _ _ _ rr
            have mr11_3 : (w9.alloc (.cells (madeCells #[.int .i64 0, .bool false] (0 * 2)) 46)).cell? ⟨w.heap.size, 3, none⟩ = some (.int .i64 0) := cell_of_row _ _ 3 _ _ _ rr
            have mr11_4 : (w9.alloc (.cells (madeCells #[.int .i64 0, .bool false] (0 * 2)) 46)).cell? ⟨w.heap.size, 4, none⟩ = some (.bool false) := cell_of_row _ _ 4 _ _ _ rr
            have mr11_5 : (w9.alloc (.cells (madeCells #[.int .i64 0, .bool false] (0 * 2)) 46)).cell? ⟨w.heap.size, 5, none⟩ = some (.int .i64 0) := cell_of_row _ _ 5 _ _ _ rr
            have ma8_0 : (w9.alloc (.cells (madeCells #[.int .i64 0, .bool false] (0 * 2)) 46)).cell? ⟨w3.heap.size, 0, none⟩ = some (.slice A d.length c) := cell_of_row _ _ 0 _ _ _ ra
            have ma8_1 : (w9.alloc (.cells (madeCells #[.int .i64 0, .bool false] (0 * 2)) 46)).cell? ⟨w3.heap.size, 1, none⟩ = some (.int .i64 ps) := cell_of_row _ _ 1 _ _ _ ra
            have ma8_2 : (w9.alloc (.cells (madeCells #[.int .i64 0, .bool false] (0 * 2)) 46)).cell? ⟨w3.heap.size, 2, none⟩ = some (.bool pp) := cell_of_row _ _ 2 _ _ _ ra
            have ma8_3 : (w9.alloc (.cells (madeCells #[.int .i64 0, .bool false] (0 * 2)) 46)).cell? ⟨w3.heap.size, 3, none⟩ = some (.int .i64 tk) := cell_of_row _ _ 3 _ _ _ ra
            have ma8_4 : (w9.alloc (.cells (madeCells #[.int .i64 0, .bool false] (0 * 2)) 46)).cell? ⟨w3.heap.size, 4, none⟩ = some (.bool tp) := cell_of_row _ _ 4 _ _ _ ra
            have ma8_5 : (w9.alloc (.cells (madeCells #[.int .i64 0, .bool false] (0 * 2)) 46)).cell? ⟨w3.heap.size, 5, none⟩ = some (.int .i64 pd) := cell_of_row _ _ 5 _ _ _ ra
            clear hn10
            have s10 : w9.heap.size < (w9.alloc (.cells (madeCells #[.int .i64 0, .bool false] (0 * 2)) 46)).heap.size := Nat.lt_of_lt_of_eq (Nat.lt_succ_self _) (World.size_alloc _ _).symm
            have z11 := frzRow ra 0
            replace rr := rowSet rr ⟨w3.heap.size, 0, none⟩ (.slice (some ⟨w9.heap.size, 0, none⟩) 0 0) (by show _ ≠ w3.heap.size; omega)
            replace rl := rowSet rl ⟨w3.heap.size, 0, none⟩ (.slice (some ⟨w9.heap.size, 0, none⟩) 0 0) (by show _ ≠ w3.heap.size; omega)
            replace ra : ((w9.alloc (.cells (madeCells #[.int .i64 0, .bool false] (0 * 2)) 46)).setCell ⟨w3.heap.size, 0, none⟩ (.slice (some ⟨w9.heap.size, 0, none⟩) 0 0)).heap[w3.heap.size]? = some (.cells #[.slice (some ⟨w9.heap.size, 0, none⟩) 0 0, .int .i64 ps, .bool pp, .int .i64 tk, .bool tp, .int .i64 pd] 24 (0, 0)) := by rw [heap_setCell_same _ _ 0 _ _ _ ra]; rfl
            replace o2 := o2.setOther ⟨w3.heap.size, 0, none⟩ (.slice (some ⟨w9.heap.size, 0, none⟩) 0 0) (by show w3.heap.size < _ ∨ _ ≤ w3.heap.size; omega)
            replace om := om.setOther ⟨w3.heap.size, 0, none⟩ (.slice (some ⟨w9.heap.size, 0, none⟩) 0 0) (by show w3.heap.size < _ ∨ _ ≤ w3.heap.size; omega)
            replace hr := rd_setc hr ⟨w3.heap.size, 0, none⟩ (.slice (some ⟨w9.heap.size, 0, none⟩) 0 0) (by show _ < w3.heap.size; omega)
            replace hF := fr_setd hF (p := ⟨w3.heap.size, 0, none⟩) (by show _ ≤ w3.heap.size; omega) (.slice (some ⟨w9.heap.size, 0, none⟩) 0 0)
            have s11 : (w9.alloc (.cells (madeCells #[.int .i64 0, .bool false] (0 * 2)) 46)).heap.size ≤ ((w9.alloc (.cells (madeCells #[.int .i64 0, .bool false] (0 * 2)) 46)).setCell ⟨w3.heap.size, 0, none⟩ (.slice (some ⟨w9.heap.size, 0, none⟩) 0 0)).heap.size := Nat.le_of_eq (World.size_setCell _ _ _).symm
            have mr12_0 : ((w9.alloc (.cells (madeCells #[.int .i64 0, .bool false] (0 * 2)) 46)).setCell ⟨w3.heap.size, 0, none⟩ (.slice (some ⟨w9.heap.size, 0, none⟩) 0 0)).cell? ⟨w.heap.size, 0, none⟩ = some (.slice none 0 0) := cell_of_row _ _ 0 _ _ _ rr
            have mr12_1 : ((w9.alloc (.cells (madeCells #[.int .i64 0, .bool false] (0 * 2)) 46)).setCell ⟨w3.heap.size, 0, none⟩ (.slice (some ⟨w9.heap.size, 0, none⟩) 0 0)).cell? ⟨w.heap.size, 1, none⟩ = some (.int .i64 0) := cell_of_row _ _ 1 _ _ _ rr
            have mr12_2 : ((w9.alloc (.cells (madeCells #[.int .i64 0, .bool false] (0 * 2)) 46)).setCell ⟨w3.heap.size, 0, none⟩ (.slice (some ⟨w9.heap.size, 0, none⟩) 0 0)).cell? ⟨w.heap.size, 2, none⟩ = some (.bool false) := cell_of_row _ _ 2 _ _ _ rr
            have mr12_3 : ((w9.alloc (.cells (madeCells #[.int .i64 0, .bool false] (0 * 2)) 46)).setCell ⟨w3.heap.size, 0, none⟩ (.slice (some ⟨w9.heap.size, 0, none⟩) 0 0)).cell? ⟨w.heap.size, 3, none⟩ = some (.int .i64 0) := cell_of_row _ _ 3 _ _ _ rr
            have mr12_4 : ((w9.alloc (.cells (madeCells #[.int .i64 0, .bool false] (0 * 2)) 46)).setCell ⟨w3.heap.size, 0, none⟩ (.slice (some ⟨w9.heap.size, 0, none⟩) 0 0)).cell? ⟨w.heap.size, 4, none⟩ = some (.bool false) := cell_of_row _ _ 4 _ _ _ rr
            have mr12_5 : ((w9.alloc (.cells (madeCells #[.int .i64 0, .bool false] (0 * 2)) 46)).setCell ⟨w3.heap.size, 0, none⟩ (.slice (some ⟨w9.heap.size, 0, none⟩) 0 0)).cell? ⟨w.heap.size, 5, none⟩ = some (.int .i64 0) := cell_of_row _ _ 5 _ _ _ rr
            have ma9_0 : ((w9.alloc (.cells (madeCells #[.int .i64 0, .bool false] (0 * 2)) 46)).setCell ⟨w3.heap.size, 0, none⟩ (.slice (some ⟨w9.heap.size, 0, none⟩) 0 0)).cell? ⟨w3.heap.size, 0, none⟩ = some (.slice (some ⟨w9.heap.size, 0, none⟩) 0 0) := cell_of_row _ _ 0 _ _ _ ra
            have ma9_1 : ((w9.alloc (.cells (madeCells #[.int .i64 0, .bool false] (0 * 2)) 46)).setCell ⟨w3.heap.size, 0, none⟩ (.slice (some ⟨w9.heap.size, 0, none⟩) 0 0)).cell? ⟨w3.heap.size, 1, none⟩ = some (.int .i64 ps) := cell_of_row _ _ 1 _ _ _ ra
            have ma9_2 : ((w9.alloc (.cells (madeCells #[.int .i64 0, .bool false] (0 * 2)) 46)).setCell ⟨w3.heap.size, 0, none⟩ (.slice (some ⟨w9.heap.size, 0, none⟩) 0 0)).cell? ⟨w3.heap.size, 2, none⟩ = some (.bool pp) := cell_of_row _ _ 2 _ _ _ ra
            have ma9_3 : ((w9.alloc (.cells (madeCells #[.int .i64 0, .bool false] (0 * 2)) 46)).setCell ⟨w3.heap.size, 0, none⟩ (.slice (some ⟨w9.heap.size, 0, none⟩) 0 0)).cell? ⟨w3.heap.size, 3, none⟩ = some (.int .i64 tk) := cell_of_row _ _ 3 _ _ _ ra
            have ma9_4 : ((w9.alloc (.cells (madeCells #[.int .i64 0, .bool false] (0 * 2)) 46)).setCell ⟨w3.heap.size, 0, none⟩ (.slice (some ⟨w9.heap.size, 0, none⟩) 0 0)).cell? ⟨w3.heap.size, 4, none⟩ = some (.bool tp) := cell_of_row _ _ 4 _ _ _ ra
            have ma9_5 : ((w9.alloc (.cells (madeCells #[.int .i64 0, .bool false] (0 * 2)) 46)).setCell ⟨w3.heap.size, 0, none⟩ (.slice (some ⟨w9.heap.size, 0, none⟩) 0 0)).cell? ⟨w3.heap.size, 5, none⟩ = some (.int .i64 pd) := cell_of_row _ _ 5 _ _ _ ra
            go_upto_region 20 with fail
            clear mr10_0 mr10_1 mr10_2 mr10_3 mr10_4 mr10_5 ma7_0 ma7_1 ma7_2 ma7_3 ma7_4 ma7_5 z11 mr11_0 mr11_1 mr11_2 mr11_3 mr11_4 mr11_5 ma8_0 ma8_1 ma8_2 ma8_3 ma8_4 ma8_5
            generalize ((w9.alloc (.cells (madeCells #[.int .i64 0, .bool false] (0 * 2)) 46)).setCell ⟨w3.heap.size, 0, none⟩ (.slice (some ⟨w9.heap.size, 0, none⟩) 0 0)) = u11 at *
            have z12_0 := frzRow rr 0
            have z12_1 := frzRow rr 1
            have z12_2 := frzRow rr 2
            have z12_3 := frzRow rr 3
            have z12_4 := frzRow rr 4
            have z12_5 := frzRow rr 5
            replace ra := rowSet (rowSet (rowSet (rowSet (rowSet (rowSet (ra) ⟨w.heap.size, 0, none⟩ (.slice (some ⟨w9.heap.size, 0, none⟩) 0 0) (by show _ ≠ w.heap.size; omega)) ⟨w.heap.size, 1, none⟩ (.int .i64 ps) (by show _ ≠ w.heap.size; omega)) ⟨w.heap.size, 2, none⟩ (.bool pp) (by show _ ≠ w.heap.size; omega)) ⟨w.heap.size, 3, none⟩ (.int .i64 tk) (by show _ ≠ w.heap.size; omega)) ⟨w.heap.size, 4, none⟩ (.bool tp) (by show _ ≠ w.heap.size; omega)) ⟨w.heap.size, 5, none⟩ (.int .i64 pd) (by show _ ≠ w.heap.size; omega)
            replace rl := rowSet (rowSet (rowSet (rowSet (rowSet (rowSet (rl) ⟨w.heap.size, 0, none⟩ (.slice (some ⟨w9.heap.size, 0, none⟩) 0 0) (by show _ ≠ w.heap.size; omega)) ⟨w.heap.size, 1, none⟩ (.int .i64 ps) (by show _ ≠ w.heap.size; omega)) ⟨w.heap.size, 2, none⟩ (.bool pp) (by show _ ≠ w.heap.size; omega)) ⟨w.heap.size, 3, none⟩ (.int .i64 tk) (by show _ ≠ w.heap.size; omega)) ⟨w.heap.size, 4, none⟩ (.bool tp) (by show _ ≠ w.heap.size; omega)) ⟨w.heap.size, 5, none⟩ (.int .i64 pd) (by show _ ≠ w.heap.size; omega)
            replace rr := put5 (put4 (put3 (put2 (put1 (put0 (rr) (.slice (some ⟨w9.heap.size, 0, none⟩) 0 0)) (.int .i64 ps)) (.bool pp)) (.int .i64 tk)) (.bool tp)) (.int .i64 pd)
            replace o2 := ((((((o2).setOther ⟨w.heap.size, 0, none⟩ (.slice (some ⟨w9.heap.size, 0, none⟩) 0 0) (by show w.heap.size < _ ∨ _ ≤ w.heap.size; omega)).setOther ⟨w.heap.size, 1, none⟩ (.int .i64 ps) (by show w.heap.size < _ ∨ _ ≤ w.heap.size; omega)).setOther ⟨w.heap.size, 2, none⟩ (.bool pp) (by show w.heap.size < _ ∨ _ ≤ w.heap.size; omega)).setOther ⟨w.heap.size, 3, none⟩ (.int .i64 tk) (by show w.heap.size < _ ∨ _ ≤ w.heap.size; omega)).setOther ⟨w.heap.size, 4, none⟩ (.bool tp) (by show w.heap.size < _ ∨ _ ≤ w.heap.size; omega)).setOther ⟨w.heap.size, 5, none⟩ (.int .i64 pd) (by show w.heap.size < _ ∨ _ ≤ w.heap.size; omega)
            replace om := ((((((om).setOther ⟨w.heap.size, 0, none⟩ (.slice (some ⟨w9.heap.size, 0, none⟩) 0 0) (by show w.heap.size < _ ∨ _ ≤ w.heap.size; omega)).setOther ⟨w.heap.size, 1, none⟩ (.int .i64 ps) (by show w.heap.size < _ ∨ _ ≤ w.heap.size; omega)).setOther ⟨w.heap.size, 2, none⟩ (.bool pp) (by show w.heap.size < _ ∨ _ ≤ w.heap.size; omega)).setOther ⟨w.heap.size, 3, none⟩ (.int .i64 tk) (by show w.heap.size < _ ∨ _ ≤ w.heap.size; omega)).setOther ⟨w.heap.size, 4, none⟩ (.bool tp) (by show w.heap.size < _ ∨ _ ≤ w.heap.size; omega)).setOther ⟨w.heap.size, 5, none⟩ (.int .i64 pd) (by show w.heap.size < _ ∨ _ ≤ w.heap.size; omega)
            replace hr := rd_setc (rd_setc (rd_setc (rd_setc (rd_setc (rd_setc (hr) ⟨w.heap.size, 0, none⟩ (.slice (some ⟨w9.heap.size, 0, none⟩) 0 0) (by show _ < w.heap.size; omega)) ⟨w.heap.size, 1, none⟩ (.int .i64 ps) (by show _ < w.heap.size; omega)) ⟨w.heap.size, 2, none⟩ (.bool pp) (by show _ < w.heap.size; omega)) ⟨w.heap.size, 3, none⟩ (.int .i64 tk) (by show _ < w.heap.size; omega)) ⟨w.heap.size, 4, none⟩ (.bool tp) (by show _ < w.heap.size; omega)) ⟨w.heap.size, 5, none⟩ (.int .i64 pd) (by show _ < w.heap.size; omega)
            replace hF := fr_setd (fr_setd (fr_setd (fr_setd (fr_setd (fr_setd (hF) (p := ⟨w.heap.size, 0, none⟩) (by show _ ≤ w.heap.size; omega) (.slice (some ⟨w9.heap.size, 0, none⟩) 0 0)) (p := ⟨w.heap.size, 1, none⟩) (by show _ ≤ w.heap.size; omega) (.int .i64 ps)) (p := ⟨w.heap.size, 2, none⟩) (by show _ ≤ w.heap.size; omega) (.bool pp)) (p := ⟨w.heap.size, 3, none⟩) (by show _ ≤ w.heap.size; omega) (.int .i64 tk)) (p := ⟨w.heap.size, 4, none⟩) (by show _ ≤ w.heap.size; omega) (.bool tp)) (p := ⟨w.heap.size, 5, none⟩) (by show _ ≤ w.heap.size; omega) (.int .i64 pd)
            have s12 : u11.heap.size ≤ ((((((u11.setCell ⟨w.heap.size, 0, none⟩ (.slice (some ⟨w9.heap.size, 0, none⟩) 0 0)).setCell ⟨w.heap.size, 1, none⟩ (.int .i64 ps)).setCell ⟨w.heap.size, 2, none⟩ (.bool pp)).setCell ⟨w.heap.size, 3, none⟩ (.int .i64 tk)).setCell ⟨w.heap.size, 4, none⟩ (.bool tp)).setCell ⟨w.heap.size, 5, none⟩ (.int .i64 pd)).heap.size := by simp only [World.size_setCell]; exact Nat.le_refl _
            have mr13_0 : ((((((u11.setCell ⟨w.heap.size, 0, none⟩ (.slice (some ⟨w9.heap.size, 0, none⟩) 0 0)).setCell ⟨w.heap.size, 1, none⟩ (.int .i64 ps)).setCell ⟨w.heap.size, 2, none⟩ (.bool pp)).setCell ⟨w.heap.size, 3, none⟩ (.int .i64 tk)).setCell ⟨w.heap.size, 4, none⟩ (.bool tp)).setCell ⟨w.heap.size, 5, none⟩ (.int .i64 pd)).cell? ⟨w.heap.size, 0, none⟩ = some (.slice (some ⟨w9.heap.size, 0, none⟩) 0 0) := cell_of_row _ _ 0 _ _ _ rr
            have mr13_1 : ((((((u11.setCell ⟨w.heap.size, 0, none⟩ (.slice (some ⟨w9.heap.size, 0, none⟩) 0 0)).setCell ⟨w.heap.size, 1, none⟩ (.int .i64 ps)).setCell ⟨w.heap.size, 2, none⟩ (.bool pp)).setCell ⟨w.heap.size, 3, none⟩ (.int .i64 tk)).setCell ⟨w.heap.size, 4, none⟩ (.bool tp)).setCell ⟨w.heap.size, 5, none⟩ (.int .i64 pd)).cell? ⟨w.heap.size, 1, none⟩ = some (.int .i64 ps) := cell_of_row _ _ 1 _ _ _ rr
            have mr13_2 : ((((((u11.setCell ⟨w.heap.size, 0, none⟩ (.slice (some ⟨w9.heap.size, 0, none⟩) 0 0)).setCell ⟨w.heap.size, 1, none⟩ (.int .i64 ps)).setCell ⟨w.heap.size, 2, none⟩ (.bool pp)).setCell ⟨w.heap.size, 3, none⟩ (.int .i64 tk)).setCell ⟨w.heap.size, 4, none⟩ (.bool tp)).setCell ⟨w.heap.size, 5, none⟩ (.int .i64 pd)).cell? ⟨w.heap.size, 2, none⟩ = some (.bool pp) := cell_of_row _ _ 2 _ _ _ rr
            have mr13_3 : ((((((u11.setCell ⟨w.heap.size, 0, none⟩ (.slice (some ⟨w9.heap.size, 0, none⟩) 0 0)).setCell ⟨w.heap.size, 1, none⟩ (.int .i64 ps)).setCell ⟨w.heap.size, 2, none⟩ (.bool pp)).setCell ⟨w.heap.size, 3, none⟩ (.int .i64 tk)).setCell ⟨w.heap.size, 4, none⟩ (.bool tp)).setCell ⟨w.heap.size, 5, none⟩ (.int .i64 pd)).cell? ⟨w.heap.size, 3, none⟩ = some (.int .i64 tk) := cell_of_row _ _ 3 _ _ _ rr
            have mr13_4 : ((((((u11.setCell ⟨w.heap.size, 0, none⟩ (.slice (some ⟨w9.heap.size, 0, none⟩) 0 0)).setCell ⟨w.heap.size, 1, none⟩ (.int .i64 ps)).setCell ⟨w.heap.size, 2, none⟩ (.bool pp)).setCell ⟨w.heap.size, 3, none⟩ (.int .i64 tk)).setCell ⟨w.heap.size, 4, none⟩ (.bool tp)).setCell ⟨w.heap.size, 5, none⟩ (.int .i64 pd)).cell? ⟨w.heap.size, 4, none⟩ = some (.bool tp) := cell_of_row _ _ 4 _ _ _ rr
            have mr13_5 : ((((((u11.setCell ⟨w.heap.size, 0, none⟩ (.slice (some ⟨w9.heap.size, 0, none⟩) 0 0)).setCell ⟨w.heap.size, 1, none⟩ (.int .i64 ps)).setCell ⟨w.heap.size, 2, none⟩ (.bool pp)).setCell ⟨w.heap.size, 3, none⟩ (.int .i64 tk)).setCell ⟨w.heap.size, 4, none⟩ (.bool tp)).setCell ⟨w.heap.size, 5, none⟩ (.int .i64 pd)).cell? ⟨w.heap.size, 5, none⟩ = some (.int .i64 pd) := cell_of_row _ _ 5 _ _ _ rr
            have ma10_0 : ((((((u11.setCell ⟨w.heap.size, 0, none⟩ (.slice (some ⟨w9.heap.size, 0, none⟩) 0 0)).setCell ⟨w.heap.size, 1, none⟩ (.int .i64 ps)).setCell ⟨w.heap.size, 2, none⟩ (.bool pp)).setCell ⟨w.heap.size, 3, none⟩ (.int .i64 tk)).setCell ⟨w.heap.size, 4, none⟩ (.bool tp)).setCell ⟨w.heap.size, 5, none⟩ (.int .i64 pd)).cell? ⟨w3.heap.size, 0, none⟩ = some (.slice (some ⟨w9.heap.size, 0, none⟩) 0 0) := cell_of_row _ _ 0 _ _ _ ra
            have ma10_1 : ((((((u11.setCell ⟨w.heap.size, 0, none⟩ (.slice (some ⟨w9.heap.size, 0, none⟩) 0 0)).setCell ⟨w.heap.size, 1, none⟩ (.int .i64 ps)).setCell ⟨w.heap.size, 2, none⟩ (.bool pp)).setCell ⟨w.heap.size, 3, none⟩ (.int .i64 tk)).setCell ⟨w.heap.size, 4, none⟩ (.bool tp)).setCell ⟨w.heap.size, 5, none⟩ (.int .i64 pd)).cell? ⟨w3.heap.size, 1, none⟩ = some (.int .i64 ps) := cell_of_row _ _ 1 _ _ _ ra
            have ma10_2 : ((((((u11.setCell ⟨w.heap.size, 0, none⟩ (.slice (some ⟨w9.heap.size, 0, none⟩) 0 0)).setCell ⟨w.heap.size, 1, none⟩ (.int .i64 ps)).setCell ⟨w.heap.size, 2, none⟩ (.bool pp)).setCell ⟨w.heap.size, 3, none⟩ (.int .i64 tk)).setCell ⟨w.heap.size, 4, none⟩ (.bool tp)).setCell ⟨w.heap.size, 5, none⟩ (.int .i64 pd)).cell? ⟨w3.heap.size, 2, none⟩ = some (.bool pp) := cell_of_row _ _ 2 _ _ _ ra
            have ma10_3 : ((((((u11.setCell ⟨w.heap.size, 0, none⟩ (.slice (some ⟨w9.heap.size, 0, none⟩) 0 0)).setCell ⟨w.heap.size, 1, none⟩ (.int .i64 ps)).setCell ⟨w.heap.size, 2, none⟩ (.bool pp)).setCell ⟨w.heap.size, 3, none⟩ (.int .i64 tk)).setCell ⟨w.heap.size, 4, none⟩ (.bool tp)).setCell ⟨w.heap.size, 5, none⟩ (.int .i64 pd)).cell? ⟨w3.heap.size, 3, none⟩ = some (.int .i64 tk) := cell_of_row _ _ 3 _ _ _ ra
            have ma10_4 : ((((((u11.setCell ⟨w.heap.size, 0, none⟩ (.slice (some ⟨w9.heap.size, 0, none⟩) 0 0)).setCell ⟨w.heap.size, 1, none⟩ (.int .i64 ps)).setCell ⟨w.heap.size, 2, none⟩ (.bool pp)).setCell ⟨w.heap.size, 3, none⟩ (.int .i64 tk)).setCell ⟨w.heap.size, 4, none⟩ (.bool tp)).setCell ⟨w.heap.size, 5, none⟩ (.int .i64 pd)).cell? ⟨w3.heap.size, 4, none⟩ = some (.bool tp) := cell_of_row _ _ 4 _ _ _ ra
            have ma10_5 : ((((((u11.setCell ⟨w.heap.size, 0, none⟩ (.slice (some ⟨w9.heap.size, 0, none⟩) 0 0)).setCell ⟨w.heap.size, 1, none⟩ (.int .i64 ps)).setCell ⟨w.heap.size, 2, none⟩ (.bool pp)).setCell ⟨w.heap.size, 3, none⟩ (.int .i64 tk)).setCell ⟨w.heap.size, 4, none⟩ (.bool tp)).setCell ⟨w.heap.size, 5, none⟩ (.int .i64 pd)).cell? ⟨w3.heap.size, 5, none⟩ = some (.int .i64 pd) := cell_of_row _ _ 5 _ _ _ ra
            go_wp2_with fail
            refine bodyPost_ret (v := .agg #[.slice (some ⟨w9.heap.size, 0, none⟩) 0 0, .int .i64 ps, .bool pp, .int .i64 tk, .bool tp, .int .i64 pd]) (by simp only [results, Try.results42]; simp [go_sem, mr13_0, mr13_1, mr13_2, mr13_3, mr13_4, mr13_5]) rfl ?_
            exact ⟨_, _, List.replicate 0 (0, false), ps, pp, tk, tp, pd, ((q4 + 1) + 1), rfl, ⟨by rw [List.length_replicate]; exact om.wide (by omega) (by omega), by rw [List.length_replicate]; omega⟩, by omega, hr, hF⟩
          · have hcv : w9.cell? ⟨w7.heap.size, 1, none⟩ = some (.int .i64 17) := cell_of_row _ _ 1 _ _ _ rl
            obtain ⟨i0, hi0, hz0, hz1, hz2⟩ := info_parts ans_info
            have hmk := run_make_rowN (P := Try.prog) 22 46 i0 (.agg #[.int .i64 0, .bool false]) Try.underlying22 hi0 hz0 .i64 .i64 17 17 (Nat.le_refl _) (by rw [hz2]; omega) (by omega)
            rw [hz1] at hmk
            simp only [Value.cells] at hmk
            rw [show ((17 : Nat) : Int) = 17 from rfl] at hmk
            clear hz1 hz2 hz0 hi0
            have om := Own.made (w := w9) (e := 46) (cur := madeCells #[.int .i64 0, .bool false] (17 * 2)) (s := 2) (n := 17) (c := 17) (xs := ansC (List.replicate 17 (0, false))) (lo := w9.heap.size) (hi := w9.heap.size + 1) (size_madeCells _ _).symm (Nat.le_refl _) (by omega) (by rw [ansC_made]; exact List.take_of_length_le (by rw [ansC_length, List.length_replicate]; exact Nat.le_refl _)) (Nat.le_refl _) (Nat.lt_succ_self _)
            have hn10 := below_new w9 (.cells (madeCells #[.int .i64 0, .bool false] (17 * 2)) 46)
            replace rr := rowKeep rr hn10
            replace ra := rowKeep ra hn10
            replace rl := rowKeep rl hn10
            replace o2 := o2.below hn10
            replace hr := hr.below hn10
            replace hF := fr_below hF hn10
            have mr11_0 : (w9.alloc (.cells (madeCells #[.int .i64 0, .bool false] (17 * 2)) 46)).cell? ⟨w.heap.size, 0, none⟩ = some (.slice none 0 0) := cell_of_row _ _ 0 _ _ _ rr
            have mr11_1 : (w9.alloc (.cells (madeCells #[.int .i64 0, .bool false] (17 * 2)) 46)).cell? ⟨w.heap.size, 1, none⟩ = some (.int .i64 0) := cell_of_row _ _ 1 _ _ _ rr
            have mr11_2 : (w9.alloc (.cells (madeCells #[.int .i64 0, .bool false] (17 * 2)) 46)).cell? ⟨w.heap.size, 2, none⟩ = some (.bool false) := cell_of_row _ _ 2 _ _ _ rr
            have mr11_3 : (w9.alloc (.cells (madeCells #[.int .i64 0, .bool false] (17 * 2)) 46)).cell? ⟨w.heap.size, 3, none⟩ = some (.int .i64 0) := cell_of_row _ _ 3 _ _ _ rr
            have mr11_4 : (w9.alloc (.cells (madeCells #[.int .i64 0, .bool false] (17 * 2)) 46)).cell? ⟨w.heap.size, 4, none⟩ = some (.bool false) := cell_of_row _ _ 4 _ _ _ rr
            have mr11_5 : (w9.alloc (.cells (madeCells #[.int .i64 0, .bool false] (17 * 2)) 46)).cell? ⟨w.heap.size, 5, none⟩ = some (.int .i64 0) := cell_of_row _ _ 5 _ _ _ rr
            have ma8_0 : (w9.alloc (.cells (madeCells #[.int .i64 0, .bool false] (17 * 2)) 46)).cell? ⟨w3.heap.size, 0, none⟩ = some (.slice A d.length c) := cell_of_row _ _ 0 _ _ _ ra
            have ma8_1 : (w9.alloc (.cells (madeCells #[.int .i64 0, .bool false] (17 * 2)) 46)).cell? ⟨w3.heap.size, 1, none⟩ = some (.int .i64 ps) := cell_of_row _ _ 1 _ _ _ ra
            have ma8_2 : (w9.alloc (.cells (madeCells #[.int .i64 0, .bool false] (17 * 2)) 46)).cell? ⟨w3.heap.size, 2, none⟩ = some (.bool pp) := cell_of_row _ _ 2 _ _ _ ra
            have ma8_3 : (w9.alloc (.cells (madeCells #[.int .i64 0, .bool false] (17 * 2)) 46)).cell? ⟨w3.heap.size, 3, none⟩ = some (.int .i64 tk) := cell_of_row _ _ 3 _ _ _ ra
            have ma8_4 : (w9.alloc (.cells (madeCells #[.int .i64 0, .bool false] (17 * 2)) 46)).cell? ⟨w3.heap.size, 4, none⟩ = some (.bool tp) := cell_of_row _ _ 4 _ _ _ ra
            have ma8_5 : (w9.alloc (.cells (madeCells #[.int .i64 0, .bool false] (17 * 2)) 46)).cell? ⟨w3.heap.size, 5, none⟩ = some (.int .i64 pd) := cell_of_row _ _ 5 _ _ _ ra
            clear hn10
            have s10 : w9.heap.size < (w9.alloc (.cells (madeCells #[.int .i64 0, .bool false] (17 * 2)) 46)).heap.size := Nat.lt_of_lt_of_eq (Nat.lt_succ_self _) (World.size_alloc _ _).symm
            have z11 := frzRow ra 0
            replace rr := rowSet rr ⟨w3.heap.size, 0, none⟩ (.slice (some ⟨w9.heap.size, 0, none⟩) 17 17) (by show _ ≠ w3.heap.size; omega)
            replace rl := rowSet rl ⟨w3.heap.size, 0, none⟩ (.slice (some ⟨w9.heap.size, 0, none⟩) 17 17) (by show _ ≠ w3.heap.size; omega)
            replace ra : ((w9.alloc (.cells (madeCells #[.int .i64 0, .bool false] (17 * 2)) 46)).setCell ⟨w3.heap.size, 0, none⟩ (.slice (some ⟨w9.heap.size, 0, none⟩) 17 17)).heap[w3.heap.size]? = some (.cells #[.slice (some ⟨w9.heap.size, 0, none⟩) 17 17, .int .i64 ps, .bool pp, .int .i64 tk, .bool tp, .int .i64 pd] 24 (0, 0)) := by rw [heap_setCell_same _ _ 0 _ _ _ ra]; rfl
            replace o2 := o2.setOther ⟨w3.heap.size, 0, none⟩ (.slice (some ⟨w9.heap.size, 0, none⟩) 17 17) (by show w3.heap.size < _ ∨ _ ≤ w3.heap.size; omega)
            replace om := om.setOther ⟨w3.heap.size, 0, none⟩ (.slice (some ⟨w9.heap.size, 0, none⟩) 17 17) (by show w3.heap.size < _ ∨ _ ≤ w3.heap.size; omega)
            replace hr := rd_setc hr ⟨w3.heap.size, 0, none⟩ (.slice (some ⟨w9.heap.size, 0, none⟩) 17 17) (by show _ < w3.heap.size; omega)
            replace hF := fr_setd hF (p := ⟨w3.heap.size, 0, none⟩) (by show _ ≤ w3.heap.size; omega) (.slice (some ⟨w9.heap.size, 0, none⟩) 17 17)
            have s11 : (w9.alloc (.cells (madeCells #[.int .i64 0, .bool false] (17 * 2)) 46)).heap.size ≤ ((w9.alloc (.cells (madeCells #[.int .i64 0, .bool false] (17 * 2)) 46)).setCell ⟨w3.heap.size, 0, none⟩ (.slice (some ⟨w9.heap.size, 0, none⟩) 17 17)).heap.size := Nat.le_of_eq (World.size_setCell _ _ _).symm
            have mr12_0 : ((w9.alloc (.cells (madeCells #[.int .i64 0, .bool false] (17 * 2)) 46)).setCell ⟨w3.heap.size, 0, none⟩ (.slice (some ⟨w9.heap.size, 0, none⟩) 17 17)).cell? ⟨w.heap.size, 0, none⟩ = some (.slice none 0 0) := cell_of_row _ _ 0 _ _ _ rr
            have mr12_1 : ((w9.alloc (.cells (madeCells #[.int .i64 0, .bool false] (17 * 2)) 46)).setCell ⟨w3.heap.size, 0, none⟩ (.slice (some ⟨w9.heap.size, 0, none⟩) 17 17)).cell? ⟨w.heap.size, 1, none⟩ = some (.int .i64 0) := cell_of_row _ _ 1 _ _ _ rr
            have mr12_2 : ((w9.alloc (.cells (madeCells #[.int .i64 0, .bool false] (17 * 2)) 46)).setCell ⟨w3.heap.size, 0, none⟩ (.slice (some ⟨w9.heap.size, 0, none⟩) 17 17)).cell? ⟨w.heap.size, 2, none⟩ = some (.bool false) := cell_of_row _ _ 2 _ _ _ rr
            have mr12_3 : ((w9.alloc (.cells (madeCells #[.int .i64 0, .bool false] (17 * 2)) 46)).setCell ⟨w3.heap.size, 0, none⟩ (.slice (some ⟨w9.heap.size, 0, none⟩) 17 17)).cell? ⟨w.heap.size, 3, none⟩ = some (.int .i64 0) := cell_of_row _ _ 3 _ _ _ rr
            have mr12_4 : ((w9.alloc (.cells (madeCells #[.int .i64 0, .bool false] (17 * 2)) 46)).setCell ⟨w3.heap.size, 0, none⟩ (.slice (some ⟨w9.heap.size, 0, none⟩) 17 17)).cell? ⟨w.heap.size, 4, none⟩ = some (.bool false) := cell_of_row _ _ 4 _ _ _ rr
            have mr12_5 : ((w9.alloc (.cells (madeCells #[.int .i64 0, .bool false] (17 * 2)) 46)).setCell ⟨w3.heap.size, 0, none⟩ (.slice (some ⟨w9.heap.size, 0, none⟩) 17 17)).cell? ⟨w.heap.size, 5, none⟩ = some (.int .i64 0) := cell_of_row _ _ 5 _ _ _ rr
            have ma9_0 : ((w9.alloc (.cells (madeCells #[.int .i64 0, .bool false] (17 * 2)) 46)).setCell ⟨w3.heap.size, 0, none⟩ (.slice (some ⟨w9.heap.size, 0, none⟩) 17 17)).cell? ⟨w3.heap.size, 0, none⟩ = some (.slice (some ⟨w9.heap.size, 0, none⟩) 17 17) := cell_of_row _ _ 0 _ _ _ ra
            have ma9_1 : ((w9.alloc (.cells (madeCells #[.int .i64 0, .bool false] (17 * 2)) 46)).setCell ⟨w3.heap.size, 0, none⟩ (.slice (some ⟨w9.heap.size, 0, none⟩) 17 17)).cell? ⟨w3.heap.size, 1, none⟩ = some (.int .i64 ps) := cell_of_row _ _ 1 _ _ _ ra
            have ma9_2 : ((w9.alloc (.cells (madeCells #[.int .i64 0, .bool false] (17 * 2)) 46)).setCell ⟨w3.heap.size, 0, none⟩ (.slice (some ⟨w9.heap.size, 0, none⟩) 17 17)).cell? ⟨w3.heap.size, 2, none⟩ = some (.bool pp) := cell_of_row _ _ 2 _ _ _ ra
            have ma9_3 : ((w9.alloc (.cells (madeCells #[.int .i64 0, .bool false] (17 * 2)) 46)).setCell ⟨w3.heap.size, 0, none⟩ (.slice (some ⟨w9.heap.size, 0, none⟩) 17 17)).cell? ⟨w3.heap.size, 3, none⟩ = some (.int .i64 tk) := cell_of_row _ _ 3 _ _ _ ra
            have ma9_4 : ((w9.alloc (.cells (madeCells #[.int .i64 0, .bool false] (17 * 2)) 46)).setCell ⟨w3.heap.size, 0, none⟩ (.slice (some ⟨w9.heap.size, 0, none⟩) 17 17)).cell? ⟨w3.heap.size, 4, none⟩ = some (.bool tp) := cell_of_row _ _ 4 _ _ _ ra
            have ma9_5 : ((w9.alloc (.cells (madeCells #[.int .i64 0, .bool false] (17 * 2)) 46)).setCell ⟨w3.heap.size, 0, none⟩ (.slice (some ⟨w9.heap.size, 0, none⟩) 17 17)).cell? ⟨w3.heap.size, 5, none⟩ = some (.int .i64 pd) := cell_of_row _ _ 5 _ _ _ ra
            go_upto_region 20 with fail
            clear mr10_0 mr10_1 mr10_2 mr10_3 mr10_4 mr10_5 ma7_0 ma7_1 ma7_2 ma7_3 ma7_4 ma7_5 z11 mr11_0 mr11_1 mr11_2 mr11_3 mr11_4 mr11_5 ma8_0 ma8_1 ma8_2 ma8_3 ma8_4 ma8_5
            generalize ((w9.alloc (.cells (madeCells #[.int .i64 0, .bool false] (17 * 2)) 46)).setCell ⟨w3.heap.size, 0, none⟩ (.slice (some ⟨w9.heap.size, 0, none⟩) 17 17)) = u11 at *
            have z12_0 := frzRow rr 0
            have z12_1 := frzRow rr 1
            have z12_2 := frzRow rr 2
            have z12_3 := frzRow rr 3
            have z12_4 := frzRow rr 4
            have z12_5 := frzRow rr 5
            replace ra := rowSet (rowSet (rowSet (rowSet (rowSet (rowSet (ra) ⟨w.heap.size, 0, none⟩ (.slice (some ⟨w9.heap.size, 0, none⟩) 17 17) (by show _ ≠ w.heap.size; omega)) ⟨w.heap.size, 1, none⟩ (.int .i64 ps) (by show _ ≠ w.heap.size; omega)) ⟨w.heap.size, 2, none⟩ (.bool pp) (by show _ ≠ w.heap.size; omega)) ⟨w.heap.size, 3, none⟩ (.int .i64 tk) (by show _ ≠ w.heap.size; omega)) ⟨w.heap.size, 4, none⟩ (.bool tp) (by show _ ≠ w.heap.size; omega)) ⟨w.heap.size, 5, none⟩ (.int .i64 pd) (by show _ ≠ w.heap.size; omega)
            replace rl := rowSet (rowSet (rowSet (rowSet (rowSet (rowSet (rl) ⟨w.heap.size, 0, none⟩ (.slice (some ⟨w9.heap.size, 0, none⟩) 17 17) (by show _ ≠ w.heap.size; omega)) ⟨w.heap.size, 1, none⟩ (.int .i64 ps) (by show _ ≠ w.heap.size; omega)) ⟨w.heap.size, 2, none⟩ (.bool pp) (by show _ ≠ w.heap.size; omega)) ⟨w.heap.size, 3, none⟩ (.int .i64 tk) (by show _ ≠ w.heap.size; omega)) ⟨w.heap.size, 4, none⟩ (.bool tp) (by show _ ≠ w.heap.size; omega)) ⟨w.heap.size, 5, none⟩ (.int .i64 pd) (by show _ ≠ w.heap.size; omega)
            replace rr := put5 (put4 (put3 (put2 (put1 (put0 (rr) (.slice (some ⟨w9.heap.size, 0, none⟩) 17 17)) (.int .i64 ps)) (.bool pp)) (.int .i64 tk)) (.bool tp)) (.int .i64 pd)
            replace o2 := ((((((o2).setOther ⟨w.heap.size, 0, none⟩ (.slice (some ⟨w9.heap.size, 0, none⟩) 17 17) (by show w.heap.size < _ ∨ _ ≤ w.heap.size; omega)).setOther ⟨w.heap.size, 1, none⟩ (.int .i64 ps) (by show w.heap.size < _ ∨ _ ≤ w.heap.size; omega)).setOther ⟨w.heap.size, 2, none⟩ (.bool pp) (by show w.heap.size < _ ∨ _ ≤ w.heap.size; omega)).setOther ⟨w.heap.size, 3, none⟩ (.int .i64 tk) (by show w.heap.size < _ ∨ _ ≤ w.heap.size; omega)).setOther ⟨w.heap.size, 4, none⟩ (.bool tp) (by show w.heap.size < _ ∨ _ ≤ w.heap.size; omega)).setOther ⟨w.heap.size, 5, none⟩ (.int .i64 pd) (by show w.heap.size < _ ∨ _ ≤ w.heap.size; omega)
            replace om := ((((((om).setOther ⟨w.heap.size, 0, none⟩ (.slice (some ⟨w9.heap.size, 0, none⟩) 17 17) (by show w.heap.size < _ ∨ _ ≤ w.heap.size; omega)).setOther ⟨w.heap.size, 1, none⟩ (.int .i64 ps) (by show w.heap.size < _ ∨ _ ≤ w.heap.size; omega)).setOther ⟨w.heap.size, 2, none⟩ (.bool pp) (by show w.heap.size < _ ∨ _ ≤ w.heap.size; omega)).setOther ⟨w.heap.size, 3, none⟩ (.int .i64 tk) (by show w.heap.size < _ ∨ _ ≤ w.heap.size; omega)).setOther ⟨w.heap.size, 4, none⟩ (.bool tp) (by show w.heap.size < _ ∨ _ ≤ w.heap.size; omega)).setOther ⟨w.heap.size, 5, none⟩ (.int .i64 pd) (by show w.heap.size < _ ∨ _ ≤ w.heap.size; omega)
            replace hr := rd_setc (rd_setc (rd_setc (rd_setc (rd_setc (rd_setc (hr) ⟨w.heap.size, 0, none⟩ (.slice (some ⟨w9.heap.size, 0, none⟩) 17 17) (by show _ < w.heap.size; omega)) ⟨w.heap.size, 1, none⟩ (.int .i64 ps) (by show _ < w.heap.size; omega)) ⟨w.heap.size, 2, none⟩ (.bool pp) (by show _ < w.heap.size; omega)) ⟨w.heap.size, 3, none⟩ (.int .i64 tk) (by show _ < w.heap.size; omega)) ⟨w.heap.size, 4, none⟩ (.bool tp) (by show _ < w.heap.size; omega)) ⟨w.heap.size, 5, none⟩ (.int .i64 pd) (by show _ < w.heap.size; omega)
            replace hF := fr_setd (fr_setd (fr_setd (fr_setd (fr_setd (fr_setd (hF) (p := ⟨w.heap.size, 0, none⟩) (by show _ ≤ w.heap.size; omega) (.slice (some ⟨w9.heap.size, 0, none⟩) 17 17)) (p := ⟨w.heap.size, 1, none⟩) (by show _ ≤ w.heap.size; omega) (.int .i64 ps)) (p := ⟨w.heap.size, 2, none⟩) (by show _ ≤ w.heap.size; omega) (.bool pp)) (p := ⟨w.heap.size, 3, none⟩) (by show _ ≤ w.heap.size; omega) (.int .i64 tk)) (p := ⟨w.heap.size, 4, none⟩) (by show _ ≤ w.heap.size; omega) (.bool tp)) (p := ⟨w.heap.size, 5, none⟩) (by show _ ≤ w.heap.size; omega) (.int .i64 pd)
            have s12 : u11.heap.size ≤ ((((((u11.setCell ⟨w.heap.size, 0, none⟩ (.slice (some ⟨w9.heap.size, 0, none⟩) 17 17)).setCell ⟨w.heap.size, 1, none⟩ (.int .i64 ps)).setCell ⟨w.heap.size, 2, none⟩ (.bool pp)).setCell ⟨w.heap.size, 3, none⟩ (.int .i64 tk)).setCell ⟨w.heap.size, 4, none⟩ (.bool tp)).setCell ⟨w.heap.size, 5, none⟩ (.int .i64 pd)).heap.size := by simp only [World.size_setCell]; exact Nat.le_refl _
            have mr13_0 : ((((((u11.setCell ⟨w.heap.size, 0, none⟩ (.slice (some ⟨w9.heap.size, 0, none⟩) 17 17)).setCell ⟨w.heap.size, 1, none⟩ (.int .i64 ps)).setCell ⟨w.heap.size, 2, none⟩ (.bool pp)).setCell ⟨w.heap.size, 3, none⟩ (.int .i64 tk)).setCell ⟨w.heap.size, 4, none⟩ (.bool tp)).setCell ⟨w.heap.size, 5, none⟩ (.int .i64 pd)).cell? ⟨w.heap.size, 0, none⟩ = some (.slice (some ⟨w9.heap.size, 0, none⟩) 17 17) := cell_of_row _ _ 0 _ _ _ rr
            have mr13_1 : ((((((u11.setCell ⟨w.heap.size, 0, none⟩ (.slice (some ⟨w9.heap.size, 0, none⟩) 17 17)).setCell ⟨w.heap.size, 1, none⟩ (.int .i64 ps)).setCell ⟨w.heap.size, 2, none⟩ (.bool pp)).setCell ⟨w.heap.size, 3, none⟩ (.int .i64 tk)).setCell ⟨w.heap.size, 4, none⟩ (.bool tp)).setCell ⟨w.heap.size, 5, none⟩ (.int .i64 pd)).cell? ⟨w.heap.size, 1, none⟩ = some (.int .i64 ps) := cell_of_row _ _ 1 _ _ _ rr
            have mr13_2 : ((((((u11.setCell ⟨w.heap.size, 0, none⟩ (.slice (some ⟨w9.heap.size, 0, none⟩) 17 17)).setCell ⟨w.heap.size, 1, none⟩ (.int .i64 ps)).setCell ⟨w.heap.size, 2, none⟩ (.bool pp)).setCell ⟨w.heap.size, 3, none⟩ (.int .i64 tk)).setCell ⟨w.heap.size, 4, none⟩ (.bool tp)).setCell ⟨w.heap.size, 5, none⟩ (.int .i64 pd)).cell? ⟨w.heap.size, 2, none⟩ = some (.bool pp) := cell_of_row _ _ 2 _ _ _ rr
            have mr13_3 : ((((((u11.setCell ⟨w.heap.size, 0, none⟩ (.slice (some ⟨w9.heap.size, 0, none⟩) 17 17)).setCell ⟨w.heap.size, 1, none⟩ (.int .i64 ps)).setCell ⟨w.heap.size, 2, none⟩ (.bool pp)).setCell ⟨w.heap.size, 3, none⟩ (.int .i64 tk)).setCell ⟨w.heap.size, 4, none⟩ (.bool tp)).setCell ⟨w.heap.size, 5, none⟩ (.int .i64 pd)).cell? ⟨w.heap.size, 3, none⟩ = some (.int .i64 tk) := cell_of_row _ _ 3 _ _ _ rr
            have mr13_4 : ((((((u11.setCell ⟨w.heap.size, 0, none⟩ (.slice (some ⟨w9.heap.size, 0, none⟩) 17 17)).setCell ⟨w.heap.size, 1, none⟩ (.int .i64 ps)).setCell ⟨w.heap.size, 2, none⟩ (.bool pp)).setCell ⟨w.heap.size, 3, none⟩ (.int .i64 tk)).setCell ⟨w.heap.size, 4, none⟩ (.bool tp)).setCell ⟨w.heap.size, 5, none⟩ (.int .i64 pd)).cell? ⟨w.heap.size, 4, none⟩ = some (.bool tp) := cell_of_row _ _ 4 _ _ _ rr
            have mr13_5 : ((((((u11.setCell ⟨w.heap.size, 0, none⟩ (.slice (some ⟨w9.heap.size, 0, none⟩) 17 17)).setCell ⟨w.heap.size, 1, none⟩ (.int .i64 ps)).setCell ⟨w.heap.size, 2, none⟩ (.bool pp)).setCell ⟨w.heap.size, 3, none⟩ (.int .i64 tk)).setCell ⟨w.heap.size, 4, none⟩ (.bool tp)).setCell ⟨w.heap.size, 5, none⟩ (.int .i64 pd)).cell? ⟨w.heap.size, 5, none⟩ = some (.int .i64 pd) := cell_of_row _ _ 5 _ _ _ rr
            have ma10_0 : ((((((u11.setCell ⟨w.heap.size, 0, none⟩ (.slice (some ⟨w9.heap.size, 0, none⟩) 17 17)).setCell ⟨w.heap.size, 1, none⟩ (.int .i64 ps)).setCell ⟨w.heap.size, 2, none⟩ (.bool pp)).setCell ⟨w.heap.size, 3, none⟩ (.int .i64 tk)).setCell ⟨w.heap.size, 4, none⟩ (.bool tp)).setCell ⟨w.heap.size, 5, none⟩ (.int .i64 pd)).cell? ⟨w3.heap.size, 0, none⟩ = some (.slice (some ⟨w9.heap.size, 0, none⟩) 17 17) := cell_of_row _ _ 0 _ _ _ ra
            have ma10_1 : ((((((u11.setCell ⟨w.heap.size, 0, none⟩ (.slice (some ⟨w9.heap.size, 0, none⟩) 17 17)).setCell ⟨w.heap.size, 1, none⟩ (.int .i64 ps)).setCell ⟨w.heap.size, 2, none⟩ (.bool pp)).setCell ⟨w.heap.size, 3, none⟩ (.int .i64 tk)).setCell ⟨w.heap.size, 4, none⟩ (.bool tp)).setCell ⟨w.heap.size, 5, none⟩ (.int .i64 pd)).cell? ⟨w3.heap.size, 1, none⟩ = some (.int .i64 ps) := cell_of_row _ _ 1 _ _ _ ra
            have ma10_2 : ((((((u11.setCell ⟨w.heap.size, 0, none⟩ (.slice (some ⟨w9.heap.size, 0, none⟩) 17 17)).setCell ⟨w.heap.size, 1, none⟩ (.int .i64 ps)).setCell ⟨w.heap.size, 2, none⟩ (.bool pp)).setCell ⟨w.heap.size, 3, none⟩ (.int .i64 tk)).setCell ⟨w.heap.size, 4, none⟩ (.bool tp)).setCell ⟨w.heap.size, 5, none⟩ (.int .i64 pd)).cell? ⟨w3.heap.size, 2, none⟩ = some (.bool pp) := cell_of_row _ _ 2 _ _ _ ra
            have ma10_3 : ((((((u11.setCell ⟨w.heap.size, 0, none⟩ (.slice (some ⟨w9.heap.size, 0, none⟩) 17 17)).setCell ⟨w.heap.size, 1, none⟩ (.int .i64 ps)).setCell ⟨w.heap.size, 2, none⟩ (.bool pp)).setCell ⟨w.heap.size, 3, none⟩ (.int .i64 tk)).setCell ⟨w.heap.size, 4, none⟩ (.bool tp)).setCell ⟨w.heap.size, 5, none⟩ (.int .i64 pd)).cell? ⟨w3.heap.size, 3, none⟩ = some (.int .i64 tk) := cell_of_row _ _ 3 _ _ _ ra
            have ma10_4 : ((((((u11.setCell ⟨w.heap.size, 0, none⟩ (.slice (some ⟨w9.heap.size, 0, none⟩) 17 17)).setCell ⟨w.heap.size, 1, none⟩ (.int .i64 ps)).setCell ⟨w.heap.size, 2, none⟩ (.bool pp)).setCell ⟨w.heap.size, 3, none⟩ (.int .i64 tk)).setCell ⟨w.heap.size, 4, none⟩ (.bool tp)).setCell ⟨w.heap.size, 5, none⟩ (.int .i64 pd)).cell? ⟨w3.heap.size, 4, none⟩ = some (.bool tp) := cell_of_row _ _ 4 _ _ _ ra
            have ma10_5 : ((((((u11.setCell ⟨w.heap.size, 0, none⟩ (.slice (some ⟨w9.heap.size, 0, none⟩) 17 17)).setCell ⟨w.heap.size, 1, none⟩ (.int .i64 ps)).setCell ⟨w.heap.size, 2, none⟩ (.bool pp)).setCell ⟨w.heap.size, 3, none⟩ (.int .i64 tk)).setCell ⟨w.heap.size, 4, none⟩ (.bool tp)).setCell ⟨w.heap.size, 5, none⟩ (.int .i64 pd)).cell? ⟨w3.heap.size, 5, none⟩ = some (.int .i64 pd) := cell_of_row _ _ 5 _ _ _ ra
            go_wp2_with fail
            refine bodyPost_ret (v := .agg #[.slice (some ⟨w9.heap.size, 0, none⟩) 17 17, .int .i64 ps, .bool pp, .int .i64 tk, .bool tp, .int .i64 pd]) (by simp only [results, Try.results42]; simp [go_sem, mr13_0, mr13_1, mr13_2, mr13_3, mr13_4, mr13_5]) rfl ?_
            exact ⟨_, _, List.replicate 17 (0, false), ps, pp, tk, tp, pd, ((q4 + 1) + 1), rfl, ⟨by rw [List.length_replicate]; exact om.wide (by omega) (by omega), by rw [List.length_replicate]; omega⟩, by omega, hr, hF⟩
end Go.Proofs.Ythkiollagnjfaaa
