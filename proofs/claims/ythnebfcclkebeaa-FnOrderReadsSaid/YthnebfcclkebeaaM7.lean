/-
  Walks: slices.Index and slices.Contains at int, isOrder of the program, l5Order of the reference.
-/
import Derived.Test.YthnebfcclkebeaaD2
import Derived.Test.YthnebfcclkebeaaF1
import Derived.Test.YthnebfcclkebeaaPlainB
import Derived.Test.YthnebfcclkebeaaS1
import Derived.IntWalk
import Derived.Deep.OwnRows
namespace Go.Proofs.Ythnebfcclkebeaa
open Go.RowKit
set_option linter.unusedSimpArgs false
set_option linter.unusedVariables false
theorem notmem_step (l : List Int) (v : Int) (k : Nat) (hk : k < l.length) (h : v ∉ l.take k) (he : ¬ v = l[k]) : v ∉ l.take (k + 1) := by
  rw [List.take_succ_eq_append_getElem hk, List.mem_append, List.mem_singleton]; rintro (h1 | h1); exact h h1; exact he h1
theorem mem_hit (l : List Int) (v : Int) (k : Nat) (hk : k < l.length) (he : v = l[k]) : v ∈ l := by
  rw [he]; exact List.getElem_mem hk
theorem notmem_end (l : List Int) (v : Int) (k : Nat) (hk : l.length ≤ k) (h : v ∉ l.take k) : v ∉ l := by
  rw [List.take_of_length_le hk] at h; exact h
theorem indexInt_any (A : Option Addr) (n c B : Nat) (d : List Int) (v : Int) (w : World) (h : Sees w B 1 A n c (ints d)) :
    Calls Try.prog 78 #[.slice A n c, .int .i64 v] w fun e w' => (∃ k : Int, e = .returned (.int .i64 k) ∧ (0 ≤ k ↔ v ∈ d)) ∧ w = w' := by
  have hn := h.int
  have hc1 := h.cap
  have hc2 := h.big
  have HN : Hid (d.length = n) := Lib.hid hn
  clear hn
  go_enter Try.func78, Try.ntmps78
  go_wp2
  go_loop [8] (fun i => ∃ k : Nat, k ≤ n ∧ i = .int .i64 k ∧ Hid (v ∉ d.take k)) (fun i => n - (intOf i).toNat)
  case atStart => exact ⟨0, Nat.zero_le _, rfl, Lib.hid (by simp)⟩
  case round =>
    obtain ⟨k, hk, rfl, hrel⟩ := hrel
    by_cases hlt : k < n
    · have hkd : k < d.length := by rw [HN.out]; exact hlt
      obtain ⟨b, o, rfl, _, hcell⟩ := h.int_at (by omega)
      have hx := hcell k hkd
      clear hcell
      by_cases he : v = d[k]
      · have HST := Lib.hid (mem_hit d v k hkd he)
        rw [← he] at hx
        clear he
        go_wp2
        go_ret
        exact ⟨⟨k, rfl, fun _ => HST.out, fun _ => by omega⟩, rfl⟩
      · have HST := Lib.hid (notmem_step d v k hkd hrel.out he)
        generalize d[k] = u at *
        go_wp2
        go_round
        case rel => exact ⟨k + 1, by omega, by go_num, HST⟩
        case measure => simp [intOf]; omega
    · have HST := Lib.hid (notmem_end d v k (by rw [HN.out]; omega) hrel.out)
      go_wp2
      go_ret
      exact ⟨⟨-1, rfl, fun h => by omega, fun h => absurd h HST.out⟩, rfl⟩
theorem containsInt_any (A : Option Addr) (n c B : Nat) (d : List Int) (v : Int) (w : World) (h : Sees w B 1 A n c (ints d)) :
    Calls Try.prog 75 #[.slice A n c, .int .i64 v] w fun e w' => e = .returned (.bool (decide (v ∈ d))) ∧ w = w' := by
  have hc := indexInt_any A n c B d v w h
  go_enter Try.func75, Try.ntmps75
  go_wp2_with fail
  refine hc.mono ?_
  rintro e w1 ⟨⟨k, rfl, hk⟩, rfl⟩
  go_wp2_with fail
  all_goals
    go_ret
    exact ⟨by first | rfl | exact ret_bool (decide_eq_decide.2 hk) | exact ret_bool (decide_eq_decide.2 Iff.rfl), rfl⟩
theorem nodup_step (l : List Int) (k : Nat) (hk : k < l.length) (h : (l.take k).Nodup) (hm : decide (l[k] ∈ l.take k) = false) : (l.take (k + 1)).Nodup := by
  rw [decide_eq_false_iff_not] at hm
  rw [List.take_succ_eq_append_getElem hk, List.nodup_append]
  refine ⟨h, by simp, ?_⟩
  intro a ha b hb he
  rw [List.mem_singleton] at hb
  subst hb; subst he
  exact hm ha
theorem nodup_bad (l : List Int) (k : Nat) (hk : k < l.length) (hm : decide (l[k] ∈ l.take k) = true) : decide l.Nodup = false := by
  rw [decide_eq_true_iff] at hm
  rw [decide_eq_false_iff_not]
  intro h
  have h2 : (l.take (k + 1)).Nodup := h.sublist (List.take_sublist _ _)
  rw [List.take_succ_eq_append_getElem hk, List.nodup_append] at h2
  exact h2.2.2 _ hm _ (List.mem_singleton.2 rfl) rfl
theorem isOrd_len {o : List Int} {m : Nat} (h : o.length ≠ m) : isOrd o m = false := by unfold isOrd; rw [decide_eq_false h]; rfl
theorem isOrd_allw {o : List Int} {m : Nat} (h : allw o 0 (m - 1) = false) : isOrd o m = false := by unfold isOrd; rw [h, Bool.false_and, Bool.and_false]
theorem isOrd_dup {o : List Int} {m : Nat} (h : decide o.Nodup = false) : isOrd o m = false := by unfold isOrd; rw [h, Bool.and_false, Bool.and_false]
theorem isOrd_of {o : List Int} {m : Nat} (h1 : o.length = m) (h2 : allw o 0 (m - 1) = true) (h3 : o.Nodup) : isOrd o m = true := by unfold isOrd; rw [decide_eq_true h1, h2, decide_eq_true h3]; rfl
theorem isOrder_any (A : Option Addr) (n c B m : Nat) (o : List Int) (w : World) (h : Sees w B 1 A n c (ints o)) (hm : m ≤ 9223372036854775807) :
    Calls Try.prog 60 #[.slice A n c, .int .i64 m] w fun e w' => e = .returned (.bool (isOrd o m)) ∧ w = w' := by
  have hn := h.int
  have hc1 := h.cap
  have hc2 := h.big
  by_cases hnm : n = m
  case neg =>
    have HV := Lib.hid (isOrd_len (m := m) (fun e => hnm (hn.symm.trans e)))
    clear hn
    go_enter Try.func60, Try.ntmps60
    go_wp2_with fail
    go_ret
    exact ⟨ret_bool HV.out.symm, rfl⟩
  case pos =>
  subst hnm
  have e0 : IntKind.i64.wrap ((n : Int) - 1) = (n : Int) - 1 := IntWalk.i64_in _ (by omega)
  have HN : Hid (o.length = n) := Lib.hid hn
  clear hn
  have hw0 := allWithin_any A n c B o 0 ((n : Int) - 1) w h
  cases ha : allw o 0 ((n : Int) - 1) with
  | false =>
    have HV := Lib.hid (isOrd_allw ha)
    rw [ha] at hw0
    clear ha
    go_enter Try.func60, Try.ntmps60
    go_wp2_with fail
    refine hw0.mono ?_
    rintro e w1 ⟨rfl, rfl⟩
    go_wp2_with fail
    go_ret
    exact ⟨ret_bool HV.out.symm, rfl⟩
  | true =>
    have HA := Lib.hid ha
    rw [ha] at hw0
    clear ha
    go_enter Try.func60, Try.ntmps60
    go_wp2_with fail
    refine hw0.mono ?_
    rintro e w1 ⟨rfl, rfl⟩
    clear hw0
    go_wp2_with fail
    go_loop [20] (fun i => ∃ k : Nat, k ≤ n ∧ i = .int .i64 k ∧ Hid ((o.take k).Nodup)) (fun i => n - (intOf i).toNat)
    case atStart => exact ⟨0, Nat.zero_le _, rfl, Lib.hid (by simp)⟩
    case round =>
      clear e0
      obtain ⟨k, hk, rfl, hrel⟩ := hrel
      by_cases hlt : k < n
      · have hkd : k < o.length := by rw [HN.out]; exact hlt
        obtain ⟨b, z, rfl, _, hcell⟩ := h.int_at (by omega)
        have hx := hcell k hkd
        have hcc := containsInt_any _ _ _ _ _ o[k] w (h.init k hk)
        clear hcell
        cases he : decide (o[k] ∈ o.take k) with
        | false =>
          have HST := Lib.hid (nodup_step o k hkd hrel.out he)
          rw [he] at hcc
          clear he
          generalize o[k] = v at *
          go_wp2_with fail
          refine hcc.mono ?_
          rintro e w1 ⟨rfl, rfl⟩
          clear hcc
          go_wp2_with fail
          go_round
          case rel => exact ⟨k + 1, by omega, by go_num, HST⟩
          case measure => simp [intOf]; omega
        | true =>
          have HST := Lib.hid (isOrd_dup (m := n) (nodup_bad o k hkd he))
          rw [he] at hcc
          clear he
          generalize o[k] = v at *
          go_wp2_with fail
          refine hcc.mono ?_
          rintro e w1 ⟨rfl, rfl⟩
          clear hcc
          go_wp2_with fail
          go_ret
          exact ⟨ret_bool HST.out.symm, rfl⟩
      · have hall := hrel.out
        rw [List.take_of_length_le (by rw [HN.out]; omega)] at hall
        have HV := Lib.hid (isOrd_of HN.out HA.out hall)
        clear hall
        go_wp2_with fail
        go_ret
        exact ⟨ret_bool HV.out.symm, rfl⟩
/-- the marks of the numbers met so far -/
def seenL (o : List Int) (n k : Nat) : List Bool := (List.range n).map fun (j : Nat) => decide ((j : Int) ∈ o.take k)
theorem seenL_length (o : List Int) (n k : Nat) : (seenL o n k).length = n := by simp [seenL]
theorem seenL_zero (o : List Int) (n : Nat) : seenL o n 0 = List.replicate n false := by
  refine List.ext_getElem (by simp [seenL]) ?_
  intro i h1 h2
  simp [seenL]
theorem seenL_get (o : List Int) (n k j : Nat) (hj : j < n) : (bools (seenL o n k))[j]? = some (.bool (decide ((j : Int) ∈ o.take k))) := by
  simp [bools, seenL, hj]
theorem seenL_step (o : List Int) (n k j : Nat) (hk : k < o.length) (hj : o[k] = (j : Int)) : (bools (seenL o n k)).set j (.bool true) = bools (seenL o n (k + 1)) := by
  refine List.ext_getElem (by simp [seenL, bools]) ?_
  intro i h1 h2
  rw [List.getElem_set]
  split
  · next he => subst he; simp [bools, seenL, List.take_succ_eq_append_getElem hk, hj]
  · next he => simp [bools, seenL, List.take_succ_eq_append_getElem hk, hj]; intro h; omega
theorem bool_info5 : (Try.prog.info? 4).map (fun i => (i.zero, i.size, i.bytes)) = some (some (.bool false), 1, 1) := by kernel_rfl
theorem falses5 (o : List Int) (n : Nat) : (madeCells #[Value.bool false] n).toList = bools (seenL o n 0) := by
  rw [toList_madeCells_one, seenL_zero]; simp [bools]
theorem l5Order_any (A : Option Addr) (n c B m : Nat) (o : List Int) (w : World) (h : Sees w B 1 A n c (ints o)) (hB : B ≤ w.heap.size) (hm : m ≤ 1000000) :
    Calls Try.prog 67 #[.slice A n c, .int .i64 m] w (RetPure w (.bool (isOrd o m))) := by
  have hn := h.int
  have hc1 := h.cap
  have hc2 := h.big
  by_cases hnm : n = m
  case neg =>
    have HV := Lib.hid (isOrd_len (m := m) (fun e => hnm (hn.symm.trans e)))
    clear hn
    go_enter Try.func67, Try.ntmps67
    go_wp2_with fail
    go_ret
    exact ⟨ret_bool HV.out.symm, Below.refl _ _⟩
  case pos =>
  subst hnm
  have e0 : IntKind.i64.wrap ((n : Int) - 1) = (n : Int) - 1 := IntWalk.i64_in _ (by omega)
  have HN : Hid (o.length = n) := Lib.hid hn
  clear hn
  have hmk := run_make_row' (P := Try.prog) 83 4 (.bool false) 1 Try.underlying83 bool_info5 rfl .i64 .i64 n (by omega) (by omega)
  have ho : Own (w.alloc (.cells (madeCells #[Value.bool false] n) 4)) w.heap.size (w.heap.size + 1) 4 1 (some ⟨w.heap.size, 0, none⟩) n n (bools (seenL o n 0)) :=
    Own.made (by simp [size_madeCells]) (Nat.le_refl _) (by omega) (by rw [falses5 o]; exact List.take_of_length_le (by simp [bools, seenL])) (Nat.le_refl _) (by omega)
  have HO := Lib.hid ho
  clear ho
  go_enter Try.func67, Try.ntmps67
  go_wp2_with fail
  clear hmk
  generalize madeCells #[Value.bool false] n = cur0 at *
  go_loopw [6] (fun i wr => ∃ k : Nat, k ≤ n ∧ i = .int .i64 k ∧ Own wr w.heap.size (w.heap.size + 1) 4 1 (some ⟨w.heap.size, 0, none⟩) n n (bools (seenL o n k)) ∧ Hid ((o.take k).Nodup ∧ allw (o.take k) 0 ((n : Int) - 1) = true) ∧ Below w.heap.size w wr) (fun i _ => n - (intOf i).toNat)
  case atStart => exact ⟨0, Nat.zero_le _, rfl, HO.out, Lib.hid ⟨by simp, by simp [allw]⟩, below_new _ _⟩
  case round =>
    clear HO
    obtain ⟨k, hk, rfl, ho, hrel, hb⟩ := hrel
    by_cases hlt : k < n
    · have hkd : k < o.length := by rw [HN.out]; exact hlt
      obtain ⟨b, z, rfl, hbB, hcell⟩ := (h.below hb hB).int_at (by omega)
      have hx := hcell k hkd
      clear hcell
      have hlq := l1In_any o[k] 0 ((n : Int) - 1)
      cases hw : win o[k] 0 ((n : Int) - 1) with
      | false =>
        have HV := Lib.hid (isOrd_allw (m := n) (allw_stop o 0 ((n : Int) - 1) k hkd hw).symm)
        rw [hw] at hlq
        clear hw
        generalize o[k] = v at *
        go_wp2_with fail
        refine (hlq _).mono ?_
        rintro e w1 ⟨rfl, rfl⟩
        clear hlq
        go_wp2_with fail
        go_ret
        exact ⟨ret_bool HV.out.symm, hb⟩
      | true =>
        have hv := (win_iff _ _ _).1 hw
        obtain ⟨j, hj⟩ := Int.eq_ofNat_of_zero_le hv.1
        have HAL := Lib.hid (allw_step o 0 ((n : Int) - 1) k hkd hrel.out.2 hw)
        rw [hw] at hlq
        have hjn : j < n := by omega
        have y := ho.cell rfl j _ (seenL_get o n k j hjn)
        have z1 := ho.frozen rfl j
        cases he : decide (o[k] ∈ o.take k) with
        | false =>
          have HND := Lib.hid (nodup_step o k hkd hrel.out.1 he)
          rw [hj] at he
          rw [he] at y
          have HO2 := ho.set rfl j (.bool true)
          rw [seenL_step o n k j hkd hj] at HO2
          replace HO2 := Lib.hid HO2
          have HB := Lib.hid (hb.setCell (p := ⟨w.heap.size, j, none⟩) (Nat.le_refl _) (.bool true))
          rw [hj] at hx hlq
          clear he hw hv hj ho hrel hb
          go_wp2_with fail
          refine (hlq _).mono ?_
          rintro e w1 ⟨rfl, rfl⟩
          clear hlq
          go_wp2_with fail
          go_roundw
          case rel => exact ⟨k + 1, by omega, by go_num, HO2.out, Lib.hid ⟨HND.out, HAL.out⟩, HB.out⟩
          case measure => simp [intOf]; omega
        | true =>
          have HST := Lib.hid (isOrd_dup (m := n) (nodup_bad o k hkd he))
          rw [hj] at he
          rw [he] at y
          rw [hj] at hx hlq
          clear he hw hv hj ho hrel
          go_wp2_with fail
          refine (hlq _).mono ?_
          rintro e w1 ⟨rfl, rfl⟩
          clear hlq
          go_wp2_with fail
          go_ret
          exact ⟨ret_bool HST.out.symm, hb⟩
    · have hk : k = n := by omega
      subst hk
      have hall := hrel.out
      rw [List.take_of_length_le (by rw [HN.out]; exact Nat.le_refl _)] at hall
      have HV := Lib.hid (isOrd_of HN.out hall.2 hall.1)
      clear hall hrel
      go_wp2_with fail
      go_ret
      exact ⟨ret_bool HV.out.symm, hb⟩
end Go.Proofs.Ythnebfcclkebeaa
