/-
  Walks: OrderSafe of the program and of the reference.
-/
import Derived.Test.YthnebfcclkebeaaM5
import Derived.Test.YthnebfcclkebeaaM7
import Derived.Test.YthnebfcclkebeaaM8
import Derived.Deep.RegionHeld3
import Derived.Deep.DrawnRows
import Derived.Deep.QuietTactic
import Derived.BigQuiet
namespace Go.Proofs.Ythnebfcclkebeaa
open Go.RowKit
set_option linter.unusedSimpArgs false
set_option linter.unusedVariables false
attribute [local go_sem ↓] Go.wp_at_zero Go.wp_at_succ
/-- places i and j of an order do not break it -/
def okij (l : List Cmd) (o : List Int) (i j : Nat) : Bool := !(decide (o.getD j 0 < o.getD i 0) && clash (pick l (o.getD i 0)) (pick l (o.getD j 0)))
theorem okPairs_iff (l : List Cmd) (o : List Int) : okPairs l o = true ↔ ∀ i j, i < j → j < o.length → okij l o i j = true := by
  induction o with
  | nil => exact ⟨fun _ i j _ hj => absurd hj (by simp), fun _ => rfl⟩
  | cons a o ih =>
    rw [okPairs_cons, ih]
    constructor
    · rintro ⟨h1, h2⟩ i j hij hj
      cases i with
      | zero =>
        cases j with
        | zero => omega
        | succ j =>
          simp only [List.length_cons] at hj
          have hjl : j < o.length := by omega
          unfold okij
          rw [List.getD_cons_zero, List.getD_cons_succ]
          by_cases hlt : o.getD j 0 < a
          · have hm : o.getD j 0 ∈ o := by rw [List.getD_eq_getElem?_getD, List.getElem?_eq_getElem hjl]; exact List.getElem_mem hjl
            rw [h1 _ hm hlt, Bool.and_false]; rfl
          · rw [decide_eq_false hlt, Bool.false_and]; rfl
      | succ i =>
        cases j with
        | zero => omega
        | succ j =>
          have := h2 i j (by omega) (by simpa using hj)
          unfold okij at this ⊢
          rw [List.getD_cons_succ, List.getD_cons_succ]; exact this
    · intro h
      refine ⟨fun b hb hlt => ?_, fun i j hij hj => ?_⟩
      · obtain ⟨j, hj, rfl⟩ := List.getElem_of_mem hb
        have := h 0 (j + 1) (by omega) (by simpa using hj)
        unfold okij at this
        rw [List.getD_cons_zero, List.getD_cons_succ, List.getD_eq_getElem?_getD, List.getElem?_eq_getElem hj] at this
        simp only [Option.getD_some, decide_eq_true hlt, Bool.true_and, Bool.not_eq_true'] at this
        exact this
      · have := h (i + 1) (j + 1) (by omega) (by simpa using hj)
        unfold okij at this ⊢
        rw [List.getD_cons_succ, List.getD_cons_succ] at this; exact this
theorem okPairs_bad (l : List Cmd) (o : List Int) (i j : Nat) (hij : i < j) (hj : j < o.length) (h : okij l o i j = false) : okPairs l o = false := by
  rw [Bool.eq_false_iff]
  intro hp
  rw [(okPairs_iff l o).1 hp i j hij hj] at h; cases h
theorem safeO_bad {l : List Cmd} {o : List Int} (h : okPairs l o = false) : safeO l o = false := by unfold safeO; rw [h, Bool.and_false]
theorem safeO_nb {l : List Cmd} {o : List Int} (h : bval l 64 = false) : safeO l o = false := by unfold safeO; rw [h]; rfl
theorem safeO_no {l : List Cmd} {o : List Int} (h : isOrd o l.length = false) : safeO l o = false := by unfold safeO; rw [h, Bool.and_false, Bool.false_and]
theorem safeO_of {l : List Cmd} {o : List Int} (h1 : bval l 64 = true) (h2 : isOrd o l.length = true) (h3 : okPairs l o = true) : safeO l o = true := by unfold safeO; rw [h1, h2, h3]; rfl
theorem okij_no {l : List Cmd} {o : List Int} {i j : Nat} (a b : Nat) (ha : o.getD i 0 = (a : Int)) (hb : o.getD j 0 = (b : Int)) (h : ¬ b < a) : okij l o i j = true := by
  unfold okij; rw [ha, hb, decide_eq_false (by omega)]; rfl
theorem okij_at {l : List Cmd} {o : List Int} {i j : Nat} (a b : Nat) (ha : o.getD i 0 = (a : Int)) (hb : o.getD j 0 = (b : Int)) (hla : a < l.length) (hlb : b < l.length) (h : b < a) : okij l o i j = !clash l[a] l[b] := by
  unfold okij; rw [ha, hb, decide_eq_true (by omega), pick_get l a hla, pick_get l b hlb]; rfl
theorem getD_at {o : List Int} {k : Nat} (h : k < o.length) : o.getD k 0 = o[k] := by rw [List.getD_eq_getElem?_getD, List.getElem?_eq_getElem h]; rfl
set_option maxHeartbeats 2000000 in
theorem implOrderSafe_any (A A' : Option Addr) (n c n' c' B B' : Nat) (l : List Cmd) (o : List Int) (w : World) (h : Sees w B 4 A n c (cmdC l)) (h' : Sees w B' 1 A' n' c' (ints o)) (hB : B ≤ w.heap.size) (hB' : B' ≤ w.heap.size) :
    Calls Try.prog 36 #[.slice A n c, .slice A' n' c'] w (RetPure w (.bool (safeO l o))) := by
  have hn := h.cmd
  have hn' := h'.int
  have hc1 := h.cap
  have hc2 := h.big
  have hc3 := h'.cap
  have hc4 := h'.big
  have hbv := implBatchValid_any A n c B l 64 w h hB (by omega)
  cases hv : bval l 64 with
  | false =>
    have HV := Lib.hid (safeO_nb (o := o) hv)
    rw [hv] at hbv
    clear hv hn hn'
    go_enter Try.func36, Try.ntmps36
    go_wp2_with fail
    refine hbv.mono ?_
    rintro e w1 ⟨rfl, b1⟩
    go_wp2_with fail
    go_ret
    exact ⟨ret_bool HV.out.symm, b1⟩
  | true =>
  have hn12 : n ≤ 12 := by have := ((bval_iff _ _).1 hv).1; omega
  have HBV := Lib.hid hv
  rw [hv] at hbv
  clear hv
  cases ho : isOrd o l.length with
  | false =>
    have HV := Lib.hid (safeO_no ho)
    subst hn
    have hcall := fun W (b : Below w.heap.size w W) => isOrder_any A' n' c' B' l.length o W (h'.below b hB') (by omega)
    rw [ho] at hcall
    clear ho hn'
    go_enter Try.func36, Try.ntmps36
    go_wp2_with fail
    refine hbv.mono ?_
    rintro e w1 ⟨rfl, b1⟩
    clear hbv
    go_wp2_with fail
    refine (hcall _ b1).mono ?_
    rintro e w2 ⟨rfl, rfl⟩
    clear hcall
    go_wp2_with fail
    go_ret
    exact ⟨ret_bool HV.out.symm, b1⟩
  | true =>
    have hnn : n' = n := by rw [← hn, ← hn']; exact ((isOrd_iff _ _).1 ho).1
    have HORD := Lib.hid ((isOrd_iff _ _).1 ho)
    have HO1 := Lib.hid ho
    clear ho
    subst hnn
    have HN := Lib.hid hn
    have HN' := Lib.hid hn'
    have hcall := fun W (b : Below w.heap.size w W) => isOrder_any A' n' c' B' n' o W (h'.below b hB') (by omega)
    have hio : isOrd o n' = true := by rw [← hn]; exact HO1.out
    rw [hio] at hcall
    clear hio hn hn'
    have HK : Hid (∀ k, k < n' → ∃ a : Nat, o.getD k 0 = (a : Int) ∧ a < n') := Lib.hid (fun k hk => by
      have hkd : k < o.length := by rw [HN'.out]; exact hk
      have hv := HORD.out.2.1 o[k] (List.getElem_mem hkd)
      rw [HN.out] at hv
      obtain ⟨a, ha⟩ := Int.eq_ofNat_of_zero_le hv.1
      exact ⟨a, by rw [getD_at hkd]; exact ha, by omega⟩)
    go_enter Try.func36, Try.ntmps36
    go_wp2_with fail
    refine hbv.mono ?_
    rintro e w1 ⟨rfl, b1⟩
    clear hbv
    go_wp2_with fail
    refine (hcall _ b1).mono ?_
    rintro e w2 ⟨rfl, rfl⟩
    have b3 := b1
    clear hcall
    go_wp2_with fail
    go_loopw [21] (fun i wr => ∃ k : Nat, k ≤ n' ∧ i = .int .i64 k ∧ Hid (∀ i j, i < j → j < n' → i < k → okij l o i j = true) ∧ Below w.heap.size w wr) (fun i _ => n' - (intOf i).toNat)
    case atStart => exact ⟨0, Nat.zero_le _, rfl, Lib.hid (by intro i j h1 h2; intro h3; omega), b3⟩
    case round =>
      clear b1 b3
      obtain ⟨k, hk, rfl, hrel, hb⟩ := hrel
      have sz := hb.size
      by_cases hlt : k < n'
      · have hkd : k < o.length := by rw [HN'.out]; exact hlt
        have h'b := h'.below hb hB'
        obtain ⟨b, z, rfl, hbB, hcell⟩ := h'b.int_at (by omega)
        have hx := hcell k hkd
        clear hcell
        obtain ⟨a, ha, han⟩ := HK.out k hlt
        rw [← getD_at hkd, ha] at hx
        have HA := Lib.hid ha
        have HREL := hrel
        clear ha hrel
        have e1 : IntKind.i64.wrap ((k : Int) + 1) = (k : Int) + 1 := IntWalk.i64_in _ (by omega)
        have t1 : ((k : Int) + 1).toNat = k + 1 := by omega
        by_cases hck : c' = k + 1
        · subst hck
          go_wp2_with fail
          go_loopw [31] (fun i wr => ∃ m : Nat, m ≤ n' - (k + 1) ∧ i = .int .i64 m ∧ Hid (∀ j, k < j → j < k + 1 + m → okij l o k j = true) ∧ Below w.heap.size w wr) (fun i _ => n' - (intOf i).toNat)
          case atStart => exact ⟨0, Nat.zero_le _, rfl, Lib.hid (by intro j h1; omega), hb⟩
          case round =>
            skip
            obtain ⟨m, hm, rfl, hin, hb2⟩ := hrel
            have sz2 := hb2.size
            by_cases hml : m < n' - (k + 1)
            · exfalso; omega
            · have HR : Hid (∀ i j, i < j → j < n' → i < k + 1 → okij l o i j = true) := Lib.hid (fun i j h1 h2 h3 => by rcases Nat.lt_or_ge i k with h4 | h4; exact HREL.out i j h1 h2 h4; have h5 : i = k := (by omega); subst h5; exact hin.out j h1 (by omega))
              clear hin
              go_wp2_with fail
              go_roundw
              case rel => exact ⟨k + 1, by omega, by go_num, HR, hb2⟩
              case measure => simp [intOf]; omega
        · go_wp2_with fail
          go_loopw [31] (fun i wr => ∃ m : Nat, m ≤ n' - (k + 1) ∧ i = .int .i64 m ∧ Hid (∀ j, k < j → j < k + 1 + m → okij l o k j = true) ∧ Below w.heap.size w wr) (fun i _ => n' - (intOf i).toNat)
          case atStart => exact ⟨0, Nat.zero_le _, rfl, Lib.hid (by intro j h1; omega), hb⟩
          case round =>
            skip
            obtain ⟨m, hm, rfl, hin, hb2⟩ := hrel
            have sz2 := hb2.size
            by_cases hml : m < n' - (k + 1)
            · have hkJ : k + 1 + m < n' := by omega
              have hkI : k < n' := by omega
              have hdJ : k + 1 + m < o.length := by rw [HN'.out]; exact hkJ
              have hdI : k < o.length := by rw [HN'.out]; exact hkI
              obtain ⟨b2, z2, he2, hb2B, hcell⟩ := (h'.below hb2 hB').int_at (by omega)
              cases he2
              have hy := hcell _ hdJ
              clear hcell
              obtain ⟨q, hq, hqn⟩ := HK.out _ hkJ
              rw [← getD_at hdJ, hq, show z + (k + 1 + m) = z + (k + 1) + m from by omega] at hy
              by_cases hqa : q < a
              · have hla : a < l.length := by rw [HN.out]; exact han
                have hlq : q < l.length := by rw [HN.out]; exact hqn
                obtain ⟨b3, z3, rfl, hb3, hcell1⟩ := (h.below hb2 hB).cmd_at (by omega)
                obtain ⟨hv0, hv1, hv2, hv3⟩ := hcell1 a hla
                obtain ⟨hu0, hu1, hu2, hu3⟩ := hcell1 q hlq
                clear hcell1
                have i3 : b3 < wr.heap.size := by omega
                have g5 : (0 : Int) ≤ (a : Int) := by omega
                have g6 : (a : Int) < (n' : Int) := by omega
                have g7 : (0 : Int) ≤ (q : Int) := by omega
                have g8 : (q : Int) < (n' : Int) := by omega
                have g9 : (q : Int) < (a : Int) := by omega
                have hd : decide ((q : Int) < (a : Int)) = true := decide_eq_true (by omega)
                have hcc := implCommandsClash_any l[a] l[q]
                cases hcl : clash l[a] l[q] with
                | false =>
                  have HST : Hid (∀ j, k < j → j < k + 1 + (m + 1) → okij l o k j = true) := Lib.hid (fun j h1 h2 => by rcases Nat.lt_or_ge j (k + 1 + m) with h3 | h3; exact hin.out j h1 h3; rw [show j = k + 1 + m from by omega]; exact (okij_at a q HA.out hq hla hlq hqa).trans (by rw [hcl]; rfl))
                  rw [hcl] at hcc
                  clear hcl
                  generalize l[a] = e at *
                  generalize l[q] = e' at *
                  obtain ⟨v0, v1, v2, v3⟩ := e
                  obtain ⟨u0, u1, u2, u3⟩ := e'
                  simp only [cmdV] at hcc hv0 hv1 hv2 hv3 hu0 hu1 hu2 hu3
                  have HC := Lib.hid hcc
                  clear hcc hq
                  go_wp2_with fail
                  go_region_held3 (fun w' => w'.cell? ⟨b3, z3 + a * 4, none⟩ = some (.int .i64 v0) ∧ w'.cell? ⟨b3, z3 + a * 4 + 1, none⟩ = some (.int .i64 v1) ∧ w'.cell? ⟨b3, z3 + a * 4 + 2, none⟩ = some (.int .i64 v2) ∧ w'.cell? ⟨b3, z3 + a * 4 + 3, none⟩ = some (.int .i64 v3) ∧ w'.cell? ⟨b3, z3 + q * 4, none⟩ = some (.int .i64 u0) ∧ w'.cell? ⟨b3, z3 + q * 4 + 1, none⟩ = some (.int .i64 u1) ∧ w'.cell? ⟨b3, z3 + q * 4 + 2, none⟩ = some (.int .i64 u2) ∧ w'.cell? ⟨b3, z3 + q * 4 + 3, none⟩ = some (.int .i64 u3)) (first | (refine ⟨?_, ?_, ?_, ?_, ?_, ?_, ?_, ?_⟩ <;> assumption) | go_keep) (first | (go_at_call 58; refine (HC.out _).mono ?_; rintro e w1 ⟨rfl, b1⟩; have hB1 := below_later (below_drewN hb2 1) b1 (by show w.heap.size ≤ w.heap.size; omega); have j0 := (b1.cell (p := ⟨b3, z3 + a * 4, none⟩) i3).trans hv0; have j1 := (b1.cell (p := ⟨b3, z3 + a * 4 + 1, none⟩) i3).trans hv1; have j2 := (b1.cell (p := ⟨b3, z3 + a * 4 + 2, none⟩) i3).trans hv2; have j3 := (b1.cell (p := ⟨b3, z3 + a * 4 + 3, none⟩) i3).trans hv3; have j4 := (b1.cell (p := ⟨b3, z3 + q * 4, none⟩) i3).trans hu0; have j5 := (b1.cell (p := ⟨b3, z3 + q * 4 + 1, none⟩) i3).trans hu1; have j6 := (b1.cell (p := ⟨b3, z3 + q * 4 + 2, none⟩) i3).trans hu2; have j7 := (b1.cell (p := ⟨b3, z3 + q * 4 + 3, none⟩) i3).trans hu3))
                  go_wp2_with fail
                  go_roundw
                  case rel => exact ⟨m + 1, by omega, by go_num, HST, hB1⟩
                  case measure => simp [intOf]; omega
                | true =>
                  have HST := Lib.hid (safeO_bad (okPairs_bad l o (k) (k + 1 + m) (by omega) hdJ ((okij_at a q HA.out hq hla hlq hqa).trans (by rw [hcl]; rfl))))
                  rw [hcl] at hcc
                  clear hcl
                  generalize l[a] = e at *
                  generalize l[q] = e' at *
                  obtain ⟨v0, v1, v2, v3⟩ := e
                  obtain ⟨u0, u1, u2, u3⟩ := e'
                  simp only [cmdV] at hcc hv0 hv1 hv2 hv3 hu0 hu1 hu2 hu3
                  have HC := Lib.hid hcc
                  clear hcc hq
                  go_wp2_with fail
                  go_region_held3 (fun w' => w'.cell? ⟨b3, z3 + a * 4, none⟩ = some (.int .i64 v0) ∧ w'.cell? ⟨b3, z3 + a * 4 + 1, none⟩ = some (.int .i64 v1) ∧ w'.cell? ⟨b3, z3 + a * 4 + 2, none⟩ = some (.int .i64 v2) ∧ w'.cell? ⟨b3, z3 + a * 4 + 3, none⟩ = some (.int .i64 v3) ∧ w'.cell? ⟨b3, z3 + q * 4, none⟩ = some (.int .i64 u0) ∧ w'.cell? ⟨b3, z3 + q * 4 + 1, none⟩ = some (.int .i64 u1) ∧ w'.cell? ⟨b3, z3 + q * 4 + 2, none⟩ = some (.int .i64 u2) ∧ w'.cell? ⟨b3, z3 + q * 4 + 3, none⟩ = some (.int .i64 u3)) (first | (refine ⟨?_, ?_, ?_, ?_, ?_, ?_, ?_, ?_⟩ <;> assumption) | go_keep) (first | (go_at_call 58; refine (HC.out _).mono ?_; rintro e w1 ⟨rfl, b1⟩; have hB1 := below_later (below_drewN hb2 1) b1 (by show w.heap.size ≤ w.heap.size; omega); have j0 := (b1.cell (p := ⟨b3, z3 + a * 4, none⟩) i3).trans hv0; have j1 := (b1.cell (p := ⟨b3, z3 + a * 4 + 1, none⟩) i3).trans hv1; have j2 := (b1.cell (p := ⟨b3, z3 + a * 4 + 2, none⟩) i3).trans hv2; have j3 := (b1.cell (p := ⟨b3, z3 + a * 4 + 3, none⟩) i3).trans hv3; have j4 := (b1.cell (p := ⟨b3, z3 + q * 4, none⟩) i3).trans hu0; have j5 := (b1.cell (p := ⟨b3, z3 + q * 4 + 1, none⟩) i3).trans hu1; have j6 := (b1.cell (p := ⟨b3, z3 + q * 4 + 2, none⟩) i3).trans hu2; have j7 := (b1.cell (p := ⟨b3, z3 + q * 4 + 3, none⟩) i3).trans hu3))
                  go_wp2_with fail
                  go_ret
                  exact ⟨ret_bool HST.out.symm, hB1⟩
              · have HST : Hid (∀ j, k < j → j < k + 1 + (m + 1) → okij l o k j = true) := Lib.hid (fun j h1 h2 => by rcases Nat.lt_or_ge j (k + 1 + m) with h3 | h3; exact hin.out j h1 h3; rw [show j = k + 1 + m from by omega]; exact okij_no a q HA.out hq hqa)
                have g9 : ¬ (q : Int) < (a : Int) := by omega
                have hd : decide ((q : Int) < (a : Int)) = false := decide_eq_false (by omega)
                clear hq
                go_wp2_with fail
                go_quiet (fail)
                go_wp2_with fail
                go_roundw
                case rel => exact ⟨m + 1, by omega, by go_num, HST, below_drewN hb2 _⟩
                case measure => simp [intOf]; omega
            · have HR : Hid (∀ i j, i < j → j < n' → i < k + 1 → okij l o i j = true) := Lib.hid (fun i j h1 h2 h3 => by rcases Nat.lt_or_ge i k with h4 | h4; exact HREL.out i j h1 h2 h4; have h5 : i = k := (by omega); subst h5; exact hin.out j h1 (by omega))
              clear hin
              go_wp2_with fail
              go_roundw
              case rel => exact ⟨k + 1, by omega, by go_num, HR, hb2⟩
              case measure => simp [intOf]; omega
      · have hk : k = n' := by omega
        have HV := Lib.hid (safeO_of HBV.out HO1.out ((okPairs_iff l o).2 (by rw [HN'.out]; exact fun i j h1 h2 => hrel.out i j h1 h2 (by omega))))
        go_wp2_with fail
        go_ret
        exact ⟨ret_bool HV.out.symm, hb⟩
set_option maxHeartbeats 2000000 in
theorem specOrderSafe_any (A A' : Option Addr) (n c n' c' B B' : Nat) (l : List Cmd) (o : List Int) (w : World) (h : Sees w B 4 A n c (cmdC l)) (h' : Sees w B' 1 A' n' c' (ints o)) (hB : B ≤ w.heap.size) (hB' : B' ≤ w.heap.size) :
    Calls Try.prog 37 #[.slice A n c, .slice A' n' c'] w (RetPure w (.bool (safeO l o))) := by
  have hn := h.cmd
  have hn' := h'.int
  have hc1 := h.cap
  have hc2 := h.big
  have hc3 := h'.cap
  have hc4 := h'.big
  have hbv := specBatchValid_any A n c B l 64 w h hB (by omega)
  cases hv : bval l 64 with
  | false =>
    have HV := Lib.hid (safeO_nb (o := o) hv)
    rw [hv] at hbv
    clear hv hn hn'
    go_enter Try.func37, Try.ntmps37
    go_wp2_with fail
    refine hbv.mono ?_
    rintro e w1 ⟨rfl, b1⟩
    go_wp2_with fail
    go_ret
    exact ⟨ret_bool HV.out.symm, b1⟩
  | true =>
  have hn12 : n ≤ 12 := by have := ((bval_iff _ _).1 hv).1; omega
  have HBV := Lib.hid hv
  rw [hv] at hbv
  clear hv
  cases ho : isOrd o l.length with
  | false =>
    have HV := Lib.hid (safeO_no ho)
    subst hn
    have hcall := fun W (b : Below w.heap.size w W) => l5Order_any A' n' c' B' l.length o W (h'.below b hB') (by have := b.size; omega) (by omega)
    rw [ho] at hcall
    clear ho hn'
    go_enter Try.func37, Try.ntmps37
    go_wp2_with fail
    refine hbv.mono ?_
    rintro e w1 ⟨rfl, b1⟩
    clear hbv
    go_wp2_with fail
    refine (hcall _ b1).mono ?_
    rintro e w2 ⟨rfl, b2⟩
    clear hcall
    go_wp2_with fail
    go_ret
    exact ⟨ret_bool HV.out.symm, below_later b1 b2 (Nat.le_refl _)⟩
  | true =>
    have hnn : n' = n := by rw [← hn, ← hn']; exact ((isOrd_iff _ _).1 ho).1
    have HORD := Lib.hid ((isOrd_iff _ _).1 ho)
    have HO1 := Lib.hid ho
    clear ho
    subst hnn
    have HN := Lib.hid hn
    have HN' := Lib.hid hn'
    have hcall := fun W (b : Below w.heap.size w W) => l5Order_any A' n' c' B' n' o W (h'.below b hB') (by have := b.size; omega) (by omega)
    have hio : isOrd o n' = true := by rw [← hn]; exact HO1.out
    rw [hio] at hcall
    clear hio hn hn'
    have HK : Hid (∀ k, k < n' → ∃ a : Nat, o.getD k 0 = (a : Int) ∧ a < n') := Lib.hid (fun k hk => by
      have hkd : k < o.length := by rw [HN'.out]; exact hk
      have hv := HORD.out.2.1 o[k] (List.getElem_mem hkd)
      rw [HN.out] at hv
      obtain ⟨a, ha⟩ := Int.eq_ofNat_of_zero_le hv.1
      exact ⟨a, by rw [getD_at hkd]; exact ha, by omega⟩)
    go_enter Try.func37, Try.ntmps37
    go_wp2_with fail
    refine hbv.mono ?_
    rintro e w1 ⟨rfl, b1⟩
    clear hbv
    go_wp2_with fail
    refine (hcall _ b1).mono ?_
    rintro e w2 ⟨rfl, b2⟩
    have b3 := below_later b1 b2 (Nat.le_refl _)
    clear hcall
    go_wp2_with fail
    go_loopw [5] (fun i wr => ∃ k : Nat, k ≤ n' ∧ i = .int .i64 k ∧ Hid (∀ i j, i < j → j < k → okij l o i j = true) ∧ Below w.heap.size w wr) (fun i _ => n' - (intOf i).toNat)
    case atStart => exact ⟨0, Nat.zero_le _, rfl, Lib.hid (by intro i j h1 h2; omega), b3⟩
    case round =>
      clear b1 b3 b2
      obtain ⟨k, hk, rfl, hrel, hb⟩ := hrel
      have sz := hb.size
      by_cases hlt : k < n'
      · have hkd : k < o.length := by rw [HN'.out]; exact hlt
        have HREL := hrel
        clear hrel
        go_wp2_with fail
        go_loopw [6] (fun i wr => ∃ m : Nat, m ≤ k ∧ i = .int .i64 m ∧ Hid (∀ i, i < m → okij l o i k = true) ∧ Below w.heap.size w wr) (fun i _ => n' - (intOf i).toNat)
        case atStart => exact ⟨0, Nat.zero_le _, rfl, Lib.hid (by intro j h1; omega), hb⟩
        case round =>
          skip
          obtain ⟨m, hm, rfl, hin, hb2⟩ := hrel
          have sz2 := hb2.size
          by_cases hml : m < k
          · have hkJ : k < n' := by omega
            have hkI : m < n' := by omega
            have hdJ : k < o.length := by rw [HN'.out]; exact hkJ
            have hdI : m < o.length := by rw [HN'.out]; exact hkI
            obtain ⟨b, z, rfl, hbB, hcell⟩ := (h'.below hb2 hB').int_at (by omega)
            have hx := hcell _ hdI
            have hy := hcell _ hdJ
            clear hcell
            obtain ⟨a, ha, han⟩ := HK.out _ hkI
            obtain ⟨q, hq, hqn⟩ := HK.out _ hkJ
            rw [← getD_at hdI, ha] at hx
            rw [← getD_at hdJ, hq] at hy
            have HA := Lib.hid ha
            clear ha
            have i5 : b < wr.heap.size := by omega
            have g1 : (0 : Int) ≤ (m : Int) := by omega
            have g2 : (m : Int) < (n' : Int) := by omega
            have g3 : (0 : Int) ≤ (k : Int) := by omega
            have g4 : (k : Int) < (n' : Int) := by omega
            by_cases hqa : q < a
            · have hla : a < l.length := by rw [HN.out]; exact han
              have hlq : q < l.length := by rw [HN.out]; exact hqn
              obtain ⟨b3, z3, rfl, hb3, hcell1⟩ := (h.below hb2 hB).cmd_at (by omega)
              obtain ⟨hv0, hv1, hv2, hv3⟩ := hcell1 a hla
              obtain ⟨hu0, hu1, hu2, hu3⟩ := hcell1 q hlq
              clear hcell1
              have i3 : b3 < wr.heap.size := by omega
              have g5 : (0 : Int) ≤ (a : Int) := by omega
              have g6 : (a : Int) < (n' : Int) := by omega
              have g7 : (0 : Int) ≤ (q : Int) := by omega
              have g8 : (q : Int) < (n' : Int) := by omega
              have g9 : (q : Int) < (a : Int) := by omega
              have hd : decide ((a : Int) > (q : Int)) = true := decide_eq_true (by omega)
              have hcc := specCommandsClash_any l[a] l[q]
              cases hcl : clash l[a] l[q] with
              | false =>
                have HST : Hid (∀ i, i < m + 1 → okij l o i k = true) := Lib.hid (fun i h1 => by rcases Nat.lt_or_ge i m with h3 | h3; exact hin.out i h3; rw [show i = m from by omega]; exact (okij_at a q HA.out hq hla hlq hqa).trans (by rw [hcl]; rfl))
                rw [hcl] at hcc
                clear hcl
                generalize l[a] = e at *
                generalize l[q] = e' at *
                obtain ⟨v0, v1, v2, v3⟩ := e
                obtain ⟨u0, u1, u2, u3⟩ := e'
                simp only [cmdV] at hcc hv0 hv1 hv2 hv3 hu0 hu1 hu2 hu3
                have HC := Lib.hid hcc
                clear hcc hq
                go_wp2_with fail
                go_region_held3 (fun w' => w'.cell? ⟨b, z + m, none⟩ = some (.int .i64 (a : Int)) ∧ w'.cell? ⟨b, z + k, none⟩ = some (.int .i64 (q : Int)) ∧ w'.cell? ⟨b3, z3 + a * 4, none⟩ = some (.int .i64 v0) ∧ w'.cell? ⟨b3, z3 + a * 4 + 1, none⟩ = some (.int .i64 v1) ∧ w'.cell? ⟨b3, z3 + a * 4 + 2, none⟩ = some (.int .i64 v2) ∧ w'.cell? ⟨b3, z3 + a * 4 + 3, none⟩ = some (.int .i64 v3) ∧ w'.cell? ⟨b3, z3 + q * 4, none⟩ = some (.int .i64 u0) ∧ w'.cell? ⟨b3, z3 + q * 4 + 1, none⟩ = some (.int .i64 u1) ∧ w'.cell? ⟨b3, z3 + q * 4 + 2, none⟩ = some (.int .i64 u2) ∧ w'.cell? ⟨b3, z3 + q * 4 + 3, none⟩ = some (.int .i64 u3)) (first | (refine ⟨?_, ?_, ?_, ?_, ?_, ?_, ?_, ?_, ?_, ?_⟩ <;> assumption) | go_keep) (first | (go_at_call 68; refine (HC.out _).mono ?_; rintro e w1 ⟨rfl, b1⟩; have hB1 := below_later (below_drewN hb2 1) b1 (by show w.heap.size ≤ w.heap.size; omega); have j0 := (b1.cell (p := ⟨b, z + m, none⟩) i5).trans hx; have j1 := (b1.cell (p := ⟨b, z + k, none⟩) i5).trans hy; have j2 := (b1.cell (p := ⟨b3, z3 + a * 4, none⟩) i3).trans hv0; have j3 := (b1.cell (p := ⟨b3, z3 + a * 4 + 1, none⟩) i3).trans hv1; have j4 := (b1.cell (p := ⟨b3, z3 + a * 4 + 2, none⟩) i3).trans hv2; have j5 := (b1.cell (p := ⟨b3, z3 + a * 4 + 3, none⟩) i3).trans hv3; have j6 := (b1.cell (p := ⟨b3, z3 + q * 4, none⟩) i3).trans hu0; have j7 := (b1.cell (p := ⟨b3, z3 + q * 4 + 1, none⟩) i3).trans hu1; have j8 := (b1.cell (p := ⟨b3, z3 + q * 4 + 2, none⟩) i3).trans hu2; have j9 := (b1.cell (p := ⟨b3, z3 + q * 4 + 3, none⟩) i3).trans hu3))
                go_wp2_with fail
                go_roundw
                case rel => exact ⟨m + 1, by omega, by go_num, HST, hB1⟩
                case measure => simp [intOf]; omega
              | true =>
                have HST := Lib.hid (safeO_bad (okPairs_bad l o (m) (k) (by omega) hdJ ((okij_at a q HA.out hq hla hlq hqa).trans (by rw [hcl]; rfl))))
                rw [hcl] at hcc
                clear hcl
                generalize l[a] = e at *
                generalize l[q] = e' at *
                obtain ⟨v0, v1, v2, v3⟩ := e
                obtain ⟨u0, u1, u2, u3⟩ := e'
                simp only [cmdV] at hcc hv0 hv1 hv2 hv3 hu0 hu1 hu2 hu3
                have HC := Lib.hid hcc
                clear hcc hq
                go_wp2_with fail
                go_region_held3 (fun w' => w'.cell? ⟨b, z + m, none⟩ = some (.int .i64 (a : Int)) ∧ w'.cell? ⟨b, z + k, none⟩ = some (.int .i64 (q : Int)) ∧ w'.cell? ⟨b3, z3 + a * 4, none⟩ = some (.int .i64 v0) ∧ w'.cell? ⟨b3, z3 + a * 4 + 1, none⟩ = some (.int .i64 v1) ∧ w'.cell? ⟨b3, z3 + a * 4 + 2, none⟩ = some (.int .i64 v2) ∧ w'.cell? ⟨b3, z3 + a * 4 + 3, none⟩ = some (.int .i64 v3) ∧ w'.cell? ⟨b3, z3 + q * 4, none⟩ = some (.int .i64 u0) ∧ w'.cell? ⟨b3, z3 + q * 4 + 1, none⟩ = some (.int .i64 u1) ∧ w'.cell? ⟨b3, z3 + q * 4 + 2, none⟩ = some (.int .i64 u2) ∧ w'.cell? ⟨b3, z3 + q * 4 + 3, none⟩ = some (.int .i64 u3)) (first | (refine ⟨?_, ?_, ?_, ?_, ?_, ?_, ?_, ?_, ?_, ?_⟩ <;> assumption) | go_keep) (first | (go_at_call 68; refine (HC.out _).mono ?_; rintro e w1 ⟨rfl, b1⟩; have hB1 := below_later (below_drewN hb2 1) b1 (by show w.heap.size ≤ w.heap.size; omega); have j0 := (b1.cell (p := ⟨b, z + m, none⟩) i5).trans hx; have j1 := (b1.cell (p := ⟨b, z + k, none⟩) i5).trans hy; have j2 := (b1.cell (p := ⟨b3, z3 + a * 4, none⟩) i3).trans hv0; have j3 := (b1.cell (p := ⟨b3, z3 + a * 4 + 1, none⟩) i3).trans hv1; have j4 := (b1.cell (p := ⟨b3, z3 + a * 4 + 2, none⟩) i3).trans hv2; have j5 := (b1.cell (p := ⟨b3, z3 + a * 4 + 3, none⟩) i3).trans hv3; have j6 := (b1.cell (p := ⟨b3, z3 + q * 4, none⟩) i3).trans hu0; have j7 := (b1.cell (p := ⟨b3, z3 + q * 4 + 1, none⟩) i3).trans hu1; have j8 := (b1.cell (p := ⟨b3, z3 + q * 4 + 2, none⟩) i3).trans hu2; have j9 := (b1.cell (p := ⟨b3, z3 + q * 4 + 3, none⟩) i3).trans hu3))
                go_wp2_with fail
                go_ret
                exact ⟨ret_bool HST.out.symm, hB1⟩
            · have HST : Hid (∀ i, i < m + 1 → okij l o i k = true) := Lib.hid (fun i h1 => by rcases Nat.lt_or_ge i m with h3 | h3; exact hin.out i h3; rw [show i = m from by omega]; exact okij_no a q HA.out hq hqa)
              have g9 : ¬ (q : Int) < (a : Int) := by omega
              have hd : decide ((a : Int) > (q : Int)) = false := decide_eq_false (by omega)
              clear hq
              go_wp2_with fail
              go_quiet (fail)
              go_wp2_with fail
              go_roundw
              case rel => exact ⟨m + 1, by omega, by go_num, HST, below_drewN hb2 _⟩
              case measure => simp [intOf]; omega
          · have HR : Hid (∀ i j, i < j → j < k + 1 → okij l o i j = true) := Lib.hid (fun i j h1 h2 => by rcases Nat.lt_or_ge j k with h4 | h4; exact HREL.out i j h1 h4; have h5 : j = k := (by omega); subst h5; exact hin.out i (by omega))
            clear hin
            go_wp2_with fail
            go_roundw
            case rel => exact ⟨k + 1, by omega, by go_num, HR, hb2⟩
            case measure => simp [intOf]; omega
      · have hk : k = n' := by omega
        have HV := Lib.hid (safeO_of HBV.out HO1.out ((okPairs_iff l o).2 (by rw [HN'.out]; exact fun i j h1 h2 => hrel.out i j h1 (by omega))))
        go_wp2_with fail
        go_ret
        exact ⟨ret_bool HV.out.symm, hb⟩
end Go.Proofs.Ythnebfcclkebeaa
