/-
  Walks: RingList of the program and of the reference.
-/
import Derived.Test.YtcbdphflockopaaR2
import Derived.Test.YtcbdphflockopaaPlainR2
import Derived.IntWalk
namespace Go.Proofs.Ytcbdphflockopaa
open Go.RowKit
/-- the state of a ring's list behind j rounds -/
def AtList (w wr : World) (r : Rng) (o : Obj) (j : Nat) (L : Option Addr) (cl : Nat) : Prop :=
  (wr.heap[w.heap.size]? = some o ∧ Own wr (w.heap.size + 1) wr.heap.size 3 1 L j cl (ints ((rls r).take j))) ∧ Below w.heap.size w wr ∧ w.heap.size + 1 ≤ wr.heap.size
theorem ringList_any (A : Option Addr) (n c B : Nat) (d : List Int) (hd tl : Int) (w : World) (h : Sees w B 1 A n c (ints d)) (hB : B ≤ w.heap.size) (hv : rval ⟨d, hd, tl⟩ = true) :
    Calls Try.prog 20 #[.agg #[.slice A n c, .int .i64 hd, .int .i64 tl]] w (RetFresh w 3 1 (rls ⟨d, hd, tl⟩).length (ints (rls ⟨d, hd, tl⟩))) := by
  obtain rfl := h.int
  have hc1 := h.cap
  have hc2 := h.big
  obtain ⟨i0, hi0, hz0, hz1, hz2⟩ := info_parts int_info
  have hv' := (rval_iff _).1 hv
  simp only at hv'
  have hcn := rcn_bd _ hv
  simp only at hcn
  have H0 := Lib.hid (rpos_zero _ hv)
  have HS := Lib.hid (rpos_succ _ hv)
  have HNE := Lib.hid (rpos_ne _ hv)
  have HE := Lib.hid (rpos_end _ hv)
  have HT := Lib.hid (rls_take _ hv)
  have HL := Lib.hid (rpos_lt _ hv)
  have hz : ((d.length : Int) == 0) = false := beq_eq_false_iff_ne.2 (by omega)
  obtain ⟨b, o, rfl, hbB, hcell⟩ := h.int_at (by omega)
  have HC := Lib.hid hcell
  have HA := Lib.hid (rls_all ⟨d, hd, tl⟩)
  have HLEN := Lib.hid (rls_length ⟨d, hd, tl⟩)
  obtain ⟨m, hm⟩ : ∃ m : Nat, (m : Int) = rcn ⟨d, hd, tl⟩ := ⟨(rcn ⟨d, hd, tl⟩).toNat, by omega⟩
  have HM := Lib.hid hm
  have hm16 : m ≤ 15 := by omega
  have hml : m < d.length := by omega
  clear hcell hm hcn
  go_enter Try.func20, Try.ntmps20
  go_wp2_with fail
  go_loopw [3, 4] (fun t i wr => ∃ (j : Nat) (L : Option Addr) (cl : Nat), j ≤ m ∧ i = .int .i64 (rpos ⟨d, hd, tl⟩ j : Int) ∧ t = .slice L j cl ∧ AtList w wr ⟨d, hd, tl⟩ (.cells #[.slice (some ⟨b, o, none⟩) d.length c, .int .i64 hd, .int .i64 tl] 25) j L cl) (fun t _ _ => m - (match t with | .slice _ j _ => j | _ => 0))
  case atStart => exact ⟨0, none, 0, Nat.zero_le _, by rw [H0.out], rfl, ⟨heap_alloc_new w _, Own.nil _ _ _ _ _⟩, below_new _ _, by simp⟩
  case round =>
    obtain ⟨j, L, cl, hj, rfl, rfl, ⟨r0, ho⟩, hb, hz1'⟩ := hrel
    obtain ⟨m0, m1, m2⟩ := cells3 r0
    have hpl : rpos ⟨d, hd, tl⟩ j < d.length := HL.out j
    by_cases hlt : j < m
    · have hne : ((rpos ⟨d, hd, tl⟩ j : Int) != tl) = true := bne_iff_ne.2 (HNE.out j (by have := HM.out; omega))
      have hsucc := HS.out j (by show (j : Int) < d.length; omega)
      have hcl := HC.out (rpos ⟨d, hd, tl⟩ j) hpl
      have hx : wr.cell? ⟨b, o + rpos ⟨d, hd, tl⟩ j, none⟩ = some (.int .i64 (d[rpos ⟨d, hd, tl⟩ j])) := by rw [hb.cell (p := ⟨b, _, none⟩) (by show b < _; omega)]; exact hcl
      have htk := HT.out j (by have := HM.out; omega)
      have hints : ints ((rls ⟨d, hd, tl⟩).take j) ++ [.int .i64 (d[rpos ⟨d, hd, tl⟩ j])] = ints ((rls ⟨d, hd, tl⟩).take (j + 1)) := by rw [htk]; simp [ints]
      have HSU := Lib.hid hsucc
      have HI := Lib.hid hints
      clear hsucc htk hints hcl
      generalize hpe : rpos ⟨d, hd, tl⟩ j = p at *
      clear hpe
      generalize d[p] = v at hx HI
      go_wp2_with (at_builtin; refine wpList_app _ rfl (.tmp 17) (.tmp 23) _ rfl 3 i0 (.int .i64 0) 1 8 Try.underlying23 hi0 hz0 hz1 hz2 rfl (by decide) _ _ _ _ _ _ rfl (ho.below (below_new wr (.cells #[.int .i64 v] 3))) _ _ _ _ _ rfl (Sees.one wr 3 (.int .i64 v)) (one_int _) (by omega) (by omega) (le_alloc _ _ (by omega)) ?_; intro L2 cl2 w2 o2 f2; rw [HI.out] at o2; have g2 := below_new wr (.cells #[.int .i64 v] 3); have r2 := rowFr (rowKeep r0 g2) f2 (.inl (by omega)); have sz2 := f2.size_alloc; have b2 := f2.below (below_later hb g2 (Nat.le_refl _)) (by omega) (Nat.le_refl _); obtain ⟨q0, q1, q2⟩ := cells3 r2; clear f2 g2 hne hx)
      go_roundw
      case rel => exact ⟨j + 1, L2, cl2, by omega, by rw [← HSU.out], rfl, ⟨r2, o2⟩, b2, by omega⟩
      case measure => simp; omega
    · obtain rfl : j = m := by omega
      have hne : ((rpos ⟨d, hd, tl⟩ j : Int) != tl) = false := by rw [bne_eq_false_iff_eq]; exact HE.out j HM.out
      have hlen : (rls ⟨d, hd, tl⟩).length = j := by have h1 := HLEN.out; have h2 := HM.out; omega
      have HA2 := Lib.hid (HA.out j HM.out)
      have HLN := Lib.hid hlen
      clear hlen
      generalize hpe : rpos ⟨d, hd, tl⟩ j = p at *
      clear hpe
      go_wp2_with fail
      go_ret
      rw [HA2.out] at ho
      refine ⟨L, cl, by rw [HLN.out]; rfl, by rw [HLN.out]; exact ho.wide (by omega) (Nat.le_refl _), hb⟩
theorem implRingList_any (A : Option Addr) (n c B : Nat) (d : List Int) (hd tl : Int) (w : World) (h : Sees w B 1 A n c (ints d)) (hB : B ≤ w.heap.size) :
    Calls Try.prog 10 #[.agg #[.slice A n c, .int .i64 hd, .int .i64 tl]] w (RetFresh w 3 1 (rlist ⟨d, hd, tl⟩).length (ints (rlist ⟨d, hd, tl⟩))) := by
  have h0 := h.below (below_new w (.cells #[.slice A n c, .int .i64 hd, .int .i64 tl] 25)) hB
  cases hv : rval ⟨d, hd, tl⟩ with
  | false =>
    rw [rlist_no _ hv]
    go_enter Try.func10, Try.ntmps10
    go_wp2_with fail
    refine (implRingValid_any _ _ _ _ _ _ _ _ h0).mono ?_
    rw [hv]
    rintro e w1 ⟨rfl, b1⟩
    go_wp2_with fail
    go_ret
    exact ⟨none, 0, rfl, Own.nil _ _ _ _ _, below_later (below_new _ _) b1 (Nat.le_refl _)⟩
  | true =>
    rw [rlist_of _ hv]
    go_enter Try.func10, Try.ntmps10
    go_wp2_with fail
    refine (implRingValid_any _ _ _ _ _ _ _ _ h0).mono ?_
    rw [hv]
    rintro e w1 ⟨rfl, b1⟩
    obtain ⟨r0, z1, B1⟩ := rows1 b1
    obtain ⟨m0, m1, m2⟩ := cells3 r0
    go_wp2_with fail
    refine (ringList_any _ _ _ _ _ _ _ _ (h.below B1 hB) (by omega) hv).mono ?_
    rintro e w2 ⟨A2, c2, rfl, o2, b2⟩
    go_wp2_with fail
    go_ret
    exact ⟨A2, c2, rfl, o2.wide (by omega) (Nat.le_refl _), below_later B1 b2 (Nat.le_refl _)⟩
end Go.Proofs.Ytcbdphflockopaa
