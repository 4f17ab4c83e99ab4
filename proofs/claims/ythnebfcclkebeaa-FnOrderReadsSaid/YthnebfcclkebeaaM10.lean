/-
  Walks: ReadyCommands of the program and of the reference.
-/
import Derived.Test.YthnebfcclkebeaaM6
import Derived.Test.YthnebfcclkebeaaM5
import Derived.Test.YthnebfcclkebeaaM8
import Derived.Test.YthnebfcclkebeaaC8
import Derived.Test.YthnebfcclkebeaaD3
import Derived.Deep.RegionHeld3
import Derived.Deep.DrawnRows
import Derived.Deep.QuietTactic
import Derived.Deep.DeepCutAuto
import Derived.BigQuiet
namespace Go.Proofs.Ythnebfcclkebeaa
open Go.RowKit
set_option linter.unusedSimpArgs false
set_option linter.unusedVariables false
attribute [local go_sem ↓] Go.wp_at_zero Go.wp_at_succ
/-- place k of the list clashes with no earlier one -/
def rdy (l : List Cmd) (k : Nat) : Bool := !((l.take k).any fun e => clash e (l.getD k cmd0))
def readyTo (l : List Cmd) (k : Nat) : List Int := ((List.range k).filter (rdy l)).map fun (i : Nat) => (i : Int)
def readyL (l : List Cmd) : List Int := if bval l 64 = true then readyTo l l.length else []
theorem readyTo_yes (l : List Cmd) (k : Nat) (h : rdy l k = true) : readyTo l (k + 1) = readyTo l k ++ [(k : Int)] := by
  simp [readyTo, List.range_succ, List.filter_append, h]
theorem readyTo_no (l : List Cmd) (k : Nat) (h : rdy l k = false) : readyTo l (k + 1) = readyTo l k := by
  simp [readyTo, List.range_succ, List.filter_append, h]
theorem readyTo_len (l : List Cmd) (k : Nat) : (readyTo l k).length ≤ k := by
  unfold readyTo; rw [List.length_map]; exact Nat.le_trans (List.length_filter_le _ _) (by simp)
theorem readyL_no {l : List Cmd} (h : bval l 64 = false) : readyL l = [] := by unfold readyL; rw [if_neg (by simp [h])]
theorem readyL_of {l : List Cmd} (h : bval l 64 = true) : readyL l = readyTo l l.length := by unfold readyL; rw [if_pos h]
theorem rdy_at (l : List Cmd) (k : Nat) (hk : k < l.length) (b : Bool) (h : ((l.take k).any fun e => clash e l[k]) = b) : rdy l k = !b := by
  unfold rdy; rw [List.getD_eq_getElem?_getD, List.getElem?_eq_getElem hk]; rw [← h]; rfl
theorem ints_app (x y : List Int) : ints (x ++ y) = ints x ++ ints y := by simp [ints]
theorem Sees.cmdPre {w : World} {B n c : Nat} {A : Option Addr} {l : List Cmd} (h : Sees w B 4 A n c (cmdC l)) (i : Nat) (hi : i ≤ n) : Sees w B 4 A i c (cmdC (l.take i)) := by
  have hs := h.pre i hi
  rwa [show (cmdC l).take (i * 4) = cmdC (l.take i) from fm_take ccel4 l i] at hs
theorem any_stay (l : List Cmd) (p : Cmd → Bool) (k : Nat) (hk : k < l.length) (h : (l.take k).any p = true) : (l.take (k + 1)).any p = true := by
  rw [List.take_succ_eq_append_getElem hk, List.any_append, h]; rfl
theorem any_next (l : List Cmd) (p : Cmd → Bool) (k : Nat) (hk : k < l.length) (b : Bool) (h : (l.take k).any p = false) (hp : p l[k] = b) : (l.take (k + 1)).any p = b := by
  rw [any_step l p k hk h, hp]
set_option maxHeartbeats 2000000 in
theorem implReadyCommands_any (A : Option Addr) (n c B : Nat) (l : List Cmd) (w : World) (h : Sees w B 4 A n c (cmdC l)) (hB : B ≤ w.heap.size) :
    Calls Try.prog 30 #[.slice A n c] w (RetFresh w 3 1 (readyL l).length (ints (readyL l))) := by
  have hn := h.cmd
  have hc1 := h.cap
  have hc2 := h.big
  obtain ⟨i0, hi0, hz0, hz1, hz2⟩ := info_parts int_info
  have hbv := implBatchValid_any A n c B l 64 w h hB (by omega)
  cases hv : bval l 64 with
  | false =>
    rw [readyL_no hv]
    rw [hv] at hbv
    clear hv hn hi0 hz0 hz1 hz2
    go_enter Try.func30, Try.ntmps30
    go_wp2_with fail
    refine hbv.mono ?_
    rintro e w1 ⟨rfl, b1⟩
    go_wp2_with fail
    go_ret
    exact RetFresh.nil b1
  | true =>
    rw [readyL_of hv]
    have hn12 : n ≤ 12 := by have := ((bval_iff _ _).1 hv).1; omega
    rw [hv] at hbv
    have HN := Lib.hid hn
    have hmf : ∀ (fn : Fn) (first cap : Array Value) (w : World), (Instr.makeFunc fn first cap).run Try.prog w = .ok (.func fn first cap) w := fun _ _ _ _ => rfl
    clear hv hn
    go_enter Try.func30, Try.ntmps30
    go_wp2_with fail
    refine hbv.mono ?_
    rintro e w1 ⟨rfl, b1⟩
    clear hbv
    go_wp2_with fail
    go_loopw [3, 11] (fun t i wr => ∃ (k m : Nat) (A2 : Option Addr) (c2 : Nat), k ≤ n ∧ i = .int .i64 k ∧ t = .slice A2 m c2 ∧ Hid ((readyTo l k).length = m) ∧ Own wr w.heap.size wr.heap.size 3 1 A2 m c2 (ints (readyTo l k)) ∧ Below w.heap.size w wr) (fun _ i _ => n - (intOf i).toNat)
    case atStart => exact ⟨0, 0, _, _, Nat.zero_le _, rfl, rfl, Lib.hid rfl, Own.nil _ _ _ _ _, b1⟩
    case round =>
      clear b1
      obtain ⟨k, m, A2, c2, hk, rfl, rfl, HL, ho2, hb⟩ := hrel
      have sz := hb.size
      by_cases hlt : k < n
      · have hkd : k < l.length := by rw [HN.out]; exact hlt
        obtain ⟨b, z, hA, hbB, hcell⟩ := (h.below hb hB).cmd_at (by omega)
        subst hA
        obtain ⟨hx0, hx1, hx2, hx3⟩ := hcell k hkd
        clear hcell
        have HANY := Lib.hid (fun (bb : Bool) => rdy_at l k hkd bb)
        have hpre := (h.below hb hB).cmdPre k hk
        obtain ⟨v0, v1, v2, v3, hld⟩ : ∃ v0 v1 v2 v3, l[k] = ⟨v0, v1, v2, v3⟩ := ⟨_, _, _, _, rfl⟩
        rw [hld] at hx0 hx1 hx2 hx3
        simp only at hx0 hx1 hx2 hx3
        have r4 := heap_alloc_new wr (.cells #[.int .i64 v0, .int .i64 v1, .int .i64 v2, .int .i64 v3] 55)
        have bW := below_new wr (.cells #[.int .i64 v0, .int .i64 v1, .int .i64 v2, .int .i64 v3] 55)
        have sW : wr.heap.size < (wr.alloc (.cells #[.int .i64 v0, .int .i64 v1, .int .i64 v2, .int .i64 v3] 55)).heap.size := rowLt r4
        have R4 := Lib.hid r4
        have BW := Lib.hid bW
        clear r4 bW
        go_upto_region 3 with fail
        generalize (wr.alloc (.cells #[.int .i64 v0, .int .i64 v1, .int .i64 v2, .int .i64 v3] 55)) = W at *
        have hp2 := hpre.below BW.out (by omega)
        have ho3 := ho2.below BW.out
        have hb3 := below_later hb BW.out (by omega)
        have HCF := Lib.hid (containsFuncR_any _ k c B (l.take k) (fun e => clash e ⟨v0, v1, v2, v3⟩) (some ⟨wr.heap.size, 0, none⟩) W hp2 (by omega) (fun e w' hbb => readyFn_any e ⟨v0, v1, v2, v3⟩ wr.heap.size w' (cells4 (rowKeep R4.out hbb)).1 (cells4 (rowKeep R4.out hbb)).2.1 (cells4 (rowKeep R4.out hbb)).2.2.1 (cells4 (rowKeep R4.out hbb)).2.2.2 (by have := hbb.size; omega)))
        clear hp2 hpre hx0 hx1 hx2 hx3 ho2 R4 BW
        cases hany : ((l.take k).any fun e => clash e ⟨v0, v1, v2, v3⟩) with
        | true =>
          have hrd := HANY.out true (by rw [hld]; exact hany)
          have HST := Lib.hid (readyTo_no l k hrd)
          have HL2 : Hid ((readyTo l (k + 1)).length = m) := Lib.hid (by rw [HST.out]; exact HL.out)
          rw [hany] at HCF
          rw [← HST.out] at ho3
          clear hany hrd hld
          go_wp2_with fail
          refine HCF.out.mono ?_
          rintro e w2 ⟨rfl, b2⟩
          have ho4 := ho3.below b2
          have hb4 := below_later hb3 b2 (Nat.le_refl _)
          have s2 := b2.size
          have ho5 := ho4.wide (Nat.le_refl _) (show wr.heap.size ≤ w2.heap.size by omega)
          clear HCF
          go_wp2_with fail
          go_roundw
          case rel => exact ⟨k + 1, m, _, _, by omega, by go_num, rfl, HL2, ho5, hb4⟩
          case measure => simp [intOf]; omega
        | false =>
          rw [hany] at HCF
          rw [← hld] at hany
          go_wp2_with fail
          refine HCF.out.mono ?_
          rintro e w2 ⟨rfl, b2⟩
          have ho4 := ho3.below b2
          have hb4 := below_later hb3 b2 (Nat.le_refl _)
          have s2 := b2.size
          clear HCF ho3 hb3 hld
          have hrd := rdy_at l k hkd _ hany
          have HST := Lib.hid (readyTo_yes l k hrd)
          have HL2 : Hid ((readyTo l (k + 1)).length = m + 1) := Lib.hid (by rw [HST.out, List.length_append, HL.out]; rfl)
          have HI : Hid (ints (readyTo l k) ++ [.int .i64 (k : Int)] = ints (readyTo l (k + 1))) := Lib.hid (by rw [HST.out, ints_app]; rfl)
          have hm := readyTo_len l k
          rw [HL.out] at hm
          have p1 := ho4.below (below_new w2 (.cells #[.int .i64 (k : Int)] 3))
          have q1 := Sees.one w2 3 (.int .i64 (k : Int))
          have B1 := below_later hb4 (below_new w2 (.cells #[.int .i64 (k : Int)] 3)) (Nat.le_refl _)
          have S1 := B1.size
          clear hrd hany HST ho4
          generalize ints (readyTo l k) = xs0 at *
          replace p1 := p1.wide (Nat.le_refl _) (show wr.heap.size ≤ w2.heap.size by omega)
          go_wp2_with (at_builtin; refine wpList_app _ rfl (.tmp 22) (.tmp 24) _ rfl 3 i0 (.int .i64 0) 1 8 Try.underlying22 hi0 hz0 hz1 hz2 rfl (by decide) _ _ _ _ _ _ rfl p1 _ _ _ _ _ rfl q1 (one_int _) (by omega) (by omega) S1 ?_; intro A3 c3 w3 o3 f3; rw [HI.out] at o3; have B3 := f3.below B1 (Nat.le_refl _) (Nat.le_refl _))
          go_roundw
          case rel => exact ⟨k + 1, m + 1, _, _, by omega, by go_num, rfl, HL2, o3, B3⟩
          case measure => simp [intOf]; omega
      · have hk : k = n := by omega
        subst hk
        go_wp2_with fail
        go_ret
        rw [HN.out, HL.out]
        exact ⟨_, _, rfl, ho2, hb⟩
set_option maxHeartbeats 2000000 in
theorem specReadyCommands_any (A : Option Addr) (n c B : Nat) (l : List Cmd) (w : World) (h : Sees w B 4 A n c (cmdC l)) (hB : B ≤ w.heap.size) :
    Calls Try.prog 44 #[.slice A n c] w (RetFresh w 3 1 (readyL l).length (ints (readyL l))) := by
  have hn := h.cmd
  have hc1 := h.cap
  have hc2 := h.big
  obtain ⟨i0, hi0, hz0, hz1, hz2⟩ := info_parts int_info
  have e0 := newEmpty w 3 1
  have b0 := below_new w (.cells #[] 3)
  have s0 : (w.alloc (.cells #[] 3)).heap.size = w.heap.size + 1 := World.size_alloc _ _
  have hbv := specBatchValid_any A n c B l 64 _ (h.below b0 hB) (by omega) (by omega)
  cases hv : bval l 64 with
  | false =>
    rw [readyL_no hv]
    rw [hv] at hbv
    clear hv hn hi0 hz0 hz1 hz2
    go_enter Try.func44, Try.ntmps44
    go_wp2_with fail
    refine hbv.mono ?_
    rintro e w1 ⟨rfl, b1⟩
    have s1 := b1.size
    go_wp2_with fail
    go_ret
    exact ⟨_, _, rfl, (e0.below b1).wide (Nat.le_refl _) (by omega), below_later b0 b1 (by omega)⟩
  | true =>
    rw [readyL_of hv]
    have hn12 : n ≤ 12 := by have := ((bval_iff _ _).1 hv).1; omega
    rw [hv] at hbv
    have HN := Lib.hid hn
    clear hv hn
    go_enter Try.func44, Try.ntmps44
    go_wp2_with fail
    refine hbv.mono ?_
    rintro e w1 ⟨rfl, b1⟩
    have s1 := b1.size
    have e1 := (e0.below b1).wide (Nat.le_refl _) (show w.heap.size + 1 ≤ w1.heap.size by omega)
    have b2 := below_later b0 b1 (by omega)
    clear hbv e0 b0 b1
    go_wp2_with fail
    go_loopw [3, 4] (fun t i wr => ∃ (k m : Nat) (A2 : Option Addr) (c2 : Nat), k ≤ n ∧ i = .int .i64 k ∧ t = .slice A2 m c2 ∧ Hid ((readyTo l k).length = m) ∧ Own wr w.heap.size wr.heap.size 3 1 A2 m c2 (ints (readyTo l k)) ∧ Below w.heap.size w wr) (fun _ i _ => n - (intOf i).toNat)
    case atStart => exact ⟨0, 0, _, _, Nat.zero_le _, rfl, rfl, Lib.hid rfl, e1, b2⟩
    case round =>
      clear b2 e1
      obtain ⟨k, m, A2, c2, hk, rfl, rfl, HL, ho2, hb⟩ := hrel
      have sz := hb.size
      by_cases hlt : k < n
      · have hkd : k < l.length := by rw [HN.out]; exact hlt
        go_wp2_with fail
        go_loopw [5, 6] (fun f i wx => ∃ (i' : Nat) (ff : Bool), i' ≤ k ∧ i = .int .i64 i' ∧ f = .bool ff ∧ Hid (((l.take i').any fun e => clash e l[k]) = !ff) ∧ Own wx w.heap.size wx.heap.size 3 1 A2 m c2 (ints (readyTo l k)) ∧ Below w.heap.size w wx) (fun _ i _ => k - (intOf i).toNat)
        case atStart => exact ⟨0, true, Nat.zero_le _, rfl, rfl, Lib.hid (by simp), ho2, hb⟩
        case round =>
          clear ho2 hb sz
          obtain ⟨i, ff, hi, rfl, rfl, hin, ho2, hb2⟩ := hrel
          have sz2 := hb2.size
          by_cases hik : i < k
          · have hid : i < l.length := by omega
            cases ff with
            | false =>
              have HST := Lib.hid (any_stay l (fun e => clash e l[k]) i hid hin.out)
              clear hin
              go_wp2_with fail
              go_quiet (fail)
              go_wp2_with fail
              go_roundw
              case rel => exact ⟨i + 1, false, by omega, by go_num, rfl, HST, ho2.drewN _, below_drewN hb2 _⟩
              case measure => simp [intOf]; omega
            | true =>
              obtain ⟨b, z, hA, hbB, hcell⟩ := (h.below hb2 hB).cmd_at (by omega)
              subst hA
              obtain ⟨hu0, hu1, hu2, hu3⟩ := hcell i hid
              obtain ⟨hv0, hv1, hv2, hv3⟩ := hcell k hkd
              clear hcell
              have i3 : b < wr.heap.size := by omega
              have g1 : (0 : Int) ≤ (i : Int) := by omega
              have g2 : (i : Int) < (n : Int) := by omega
              have g3 : (0 : Int) ≤ (k : Int) := by omega
              have g4 : (k : Int) < (n : Int) := by omega
              have hcc := specCommandsClash_any l[i] l[k]
              cases hcl : clash l[i] l[k] with
              | false =>
                have HST := Lib.hid (any_next l (fun e => clash e l[k]) i hid false hin.out hcl)
                rw [hcl] at hcc
                clear hin hcl
                generalize hek : l[k] = e at hcc hv0 hv1 hv2 hv3 HST ⊢
                generalize l[i] = e' at hcc hu0 hu1 hu2 hu3
                obtain ⟨v0, v1, v2, v3⟩ := e
                obtain ⟨u0, u1, u2, u3⟩ := e'
                simp only [cmdV] at hcc hv0 hv1 hv2 hv3 hu0 hu1 hu2 hu3
                have HC := Lib.hid hcc
                have HEK := Lib.hid hek
                clear hcc hek
                go_wp2_with fail
                go_region_held3 (fun w' => w'.cell? ⟨b, z + i * 4, none⟩ = some (.int .i64 u0) ∧ w'.cell? ⟨b, z + i * 4 + 1, none⟩ = some (.int .i64 u1) ∧ w'.cell? ⟨b, z + i * 4 + 2, none⟩ = some (.int .i64 u2) ∧ w'.cell? ⟨b, z + i * 4 + 3, none⟩ = some (.int .i64 u3) ∧ w'.cell? ⟨b, z + k * 4, none⟩ = some (.int .i64 v0) ∧ w'.cell? ⟨b, z + k * 4 + 1, none⟩ = some (.int .i64 v1) ∧ w'.cell? ⟨b, z + k * 4 + 2, none⟩ = some (.int .i64 v2) ∧ w'.cell? ⟨b, z + k * 4 + 3, none⟩ = some (.int .i64 v3)) (first | (refine ⟨?_, ?_, ?_, ?_, ?_, ?_, ?_, ?_⟩ <;> assumption) | go_keep) (first | (go_at_call 68; refine (HC.out _).mono ?_; rintro e w1 ⟨rfl, b1⟩; have hB1 := below_later (below_drewN hb2 1) b1 (by show w.heap.size ≤ w.heap.size; omega); have j0 := (b1.cell (p := ⟨b, z + i * 4, none⟩) i3).trans hu0; have j1 := (b1.cell (p := ⟨b, z + i * 4 + 1, none⟩) i3).trans hu1; have j2 := (b1.cell (p := ⟨b, z + i * 4 + 2, none⟩) i3).trans hu2; have j3 := (b1.cell (p := ⟨b, z + i * 4 + 3, none⟩) i3).trans hu3; have j4 := (b1.cell (p := ⟨b, z + k * 4, none⟩) i3).trans hv0; have j5 := (b1.cell (p := ⟨b, z + k * 4 + 1, none⟩) i3).trans hv1; have j6 := (b1.cell (p := ⟨b, z + k * 4 + 2, none⟩) i3).trans hv2; have j7 := (b1.cell (p := ⟨b, z + k * 4 + 3, none⟩) i3).trans hv3))
                have ho4 := (ho2.drewN 1).below b1
                have s4 := b1.size
                have s5 : wr.heap.size ≤ w1.heap.size := s4
                have ho5 := ho4.wide (Nat.le_refl _) s5
                go_wp2_with fail
                go_roundw
                case rel => exact ⟨i + 1, true, by omega, by go_num, rfl, Lib.hid (by first | exact HST.out | (rw [HEK.out]; exact HST.out)), ho5, hB1⟩
                case measure => simp [intOf]; omega
              | true =>
                have HST := Lib.hid (any_next l (fun e => clash e l[k]) i hid true hin.out hcl)
                rw [hcl] at hcc
                clear hin hcl
                generalize hek : l[k] = e at hcc hv0 hv1 hv2 hv3 HST ⊢
                generalize l[i] = e' at hcc hu0 hu1 hu2 hu3
                obtain ⟨v0, v1, v2, v3⟩ := e
                obtain ⟨u0, u1, u2, u3⟩ := e'
                simp only [cmdV] at hcc hv0 hv1 hv2 hv3 hu0 hu1 hu2 hu3
                have HC := Lib.hid hcc
                have HEK := Lib.hid hek
                clear hcc hek
                go_wp2_with fail
                go_region_held3 (fun w' => w'.cell? ⟨b, z + i * 4, none⟩ = some (.int .i64 u0) ∧ w'.cell? ⟨b, z + i * 4 + 1, none⟩ = some (.int .i64 u1) ∧ w'.cell? ⟨b, z + i * 4 + 2, none⟩ = some (.int .i64 u2) ∧ w'.cell? ⟨b, z + i * 4 + 3, none⟩ = some (.int .i64 u3) ∧ w'.cell? ⟨b, z + k * 4, none⟩ = some (.int .i64 v0) ∧ w'.cell? ⟨b, z + k * 4 + 1, none⟩ = some (.int .i64 v1) ∧ w'.cell? ⟨b, z + k * 4 + 2, none⟩ = some (.int .i64 v2) ∧ w'.cell? ⟨b, z + k * 4 + 3, none⟩ = some (.int .i64 v3)) (first | (refine ⟨?_, ?_, ?_, ?_, ?_, ?_, ?_, ?_⟩ <;> assumption) | go_keep) (first | (go_at_call 68; refine (HC.out _).mono ?_; rintro e w1 ⟨rfl, b1⟩; have hB1 := below_later (below_drewN hb2 1) b1 (by show w.heap.size ≤ w.heap.size; omega); have j0 := (b1.cell (p := ⟨b, z + i * 4, none⟩) i3).trans hu0; have j1 := (b1.cell (p := ⟨b, z + i * 4 + 1, none⟩) i3).trans hu1; have j2 := (b1.cell (p := ⟨b, z + i * 4 + 2, none⟩) i3).trans hu2; have j3 := (b1.cell (p := ⟨b, z + i * 4 + 3, none⟩) i3).trans hu3; have j4 := (b1.cell (p := ⟨b, z + k * 4, none⟩) i3).trans hv0; have j5 := (b1.cell (p := ⟨b, z + k * 4 + 1, none⟩) i3).trans hv1; have j6 := (b1.cell (p := ⟨b, z + k * 4 + 2, none⟩) i3).trans hv2; have j7 := (b1.cell (p := ⟨b, z + k * 4 + 3, none⟩) i3).trans hv3))
                have ho4 := (ho2.drewN 1).below b1
                have s4 := b1.size
                have s5 : wr.heap.size ≤ w1.heap.size := s4
                have ho5 := ho4.wide (Nat.le_refl _) s5
                go_wp2_with fail
                go_roundw
                case rel => exact ⟨i + 1, false, by omega, by go_num, rfl, Lib.hid (by first | exact HST.out | (rw [HEK.out]; exact HST.out)), ho5, hB1⟩
                case measure => simp [intOf]; omega
          · have hik2 : i = k := by omega
            subst hik2
            cases ff with
            | false =>
              have hany := hin.out
              have hrd := rdy_at l i hkd _ hany
              have HST := Lib.hid (readyTo_no l i hrd)
              have HL2 : Hid ((readyTo l (i + 1)).length = m) := Lib.hid (by rw [HST.out]; exact HL.out)
              rw [← HST.out] at ho2
              clear hany hrd hin
              go_wp2_with fail
              go_roundw
              case rel => exact ⟨i + 1, m, _, _, by omega, by go_num, rfl, HL2, ho2, hb2⟩
              case measure => simp [intOf]; omega
            | true =>
              have hany := hin.out
              clear hin
              have hrd := rdy_at l i hkd _ hany
              have HST := Lib.hid (readyTo_yes l i hrd)
              have HL2 : Hid ((readyTo l (i + 1)).length = m + 1) := Lib.hid (by rw [HST.out, List.length_append, HL.out]; rfl)
              have HI : Hid (ints (readyTo l i) ++ [.int .i64 (i : Int)] = ints (readyTo l (i + 1))) := Lib.hid (by rw [HST.out, ints_app]; rfl)
              have hm := readyTo_len l i
              rw [HL.out] at hm
              have p1 := ho2.below (below_new wr (.cells #[.int .i64 (i : Int)] 3))
              have q1 := Sees.one wr 3 (.int .i64 (i : Int))
              have B1 := below_later hb2 (below_new wr (.cells #[.int .i64 (i : Int)] 3)) (Nat.le_refl _)
              have S1 := B1.size
              clear hrd hany HST ho2
              generalize ints (readyTo l i) = xs0 at *
              go_wp2_with (at_builtin; refine wpList_app _ rfl (.tmp 37) (.tmp 39) _ rfl 3 i0 (.int .i64 0) 1 8 Try.underlying22 hi0 hz0 hz1 hz2 rfl (by decide) _ _ _ _ _ _ rfl p1 _ _ _ _ _ rfl q1 (one_int _) (by omega) (by omega) S1 ?_; intro A3 c3 w3 o3 f3; rw [HI.out] at o3; have B3 := f3.below B1 (Nat.le_refl _) (Nat.le_refl _))
              go_roundw
              case rel => exact ⟨i + 1, m + 1, _, _, by omega, by go_num, rfl, HL2, o3, B3⟩
              case measure => simp [intOf]; omega
      · have hk : k = n := by omega
        subst hk
        go_wp2_with fail
        go_ret
        rw [HN.out, HL.out]
        exact ⟨_, _, rfl, ho2, hb⟩
end Go.Proofs.Ythnebfcclkebeaa
