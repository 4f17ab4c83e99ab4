/-
  Walk: the law FnDiskLast returns true.
-/
import Derived.Test.YthjmjnekimkflaaA
import Derived.Test.YthjmjnekimkflaaD5
import Derived.Test.YthjmjnekimkflaaP4
namespace Go.Proofs.Ythjmjnekimkflaa
open Go.RowKit
theorem law_FnDiskLast (w : World) (A : Option Addr) (n c : Nat) (bs : List Int) (h : Sees w w.heap.size 1 A n c (byts bs)) (hb : ∀ v ∈ bs, 0 ≤ v ∧ v ≤ 255) :
    Calls Try.prog 11 #[.slice A n c] w (RetPure w (.bool true)) := by
  have hc1 := h.cap
  have hc2 := h.big
  obtain ⟨i0, hi0, hz0, hz1, hz2⟩ := info_parts int_info
  by_cases hbail : 1048576 < n
  · go_enter Try.func11, Try.ntmps11
    go_wp2_with fail
    go_ret
    exact ⟨rfl, Below.refl _ _⟩
  have hB : Below w.heap.size w w := Below.refl _ _
  go_enter Try.func11, Try.ntmps11
  go_wp2_with fail
  refine (drawWrite_any _ _ _ _ _ _ h (Nat.le_refl _) hb).mono ?_
  rintro e w1 ⟨Ad, nd, cd, d, Av, nv, cv, vs, a, rfl, od, hnd, ov, hnv, ha, b1⟩
  obtain rfl := od.sees.int
  obtain rfl := ov.sees.int
  have s1 := b1.size
  replace hB := below_later hB b1 (Nat.le_refl _)
  clear b1
  clear h hb
  have hlen := wrS_64 d a vs
  go_wp2_with fail
  refine (implWriteSectors_any _ _ _ _ _ _ _ _ _ _ _ _ od.sees (by omega) ov.sees (by omega)).mono ?_
  rintro e w2 ⟨Ax, cx, rfl, ox, b2⟩
  have s2 := b2.size
  replace od := od.below b2
  replace ov := ov.below b2
  replace hB := below_later hB b2 (Nat.le_refl _)
  clear b2
  go_wp2_with fail
  refine (specWriteSectors_any _ _ _ _ _ _ _ _ _ _ _ _ od.sees (by omega) ov.sees (by omega)).mono ?_
  rintro e w3 ⟨Ar, cr, rfl, or, b3⟩
  have s3 := b3.size
  replace od := od.below b3
  replace ov := ov.below b3
  replace ox := ox.below b3
  replace hB := below_later hB b3 (Nat.le_refl _)
  clear b3
  go_wp2_with fail
  refine (sameInts_t _ _ _ _ _ _ _ _ _ _ ox.sees or.sees).mono ?_
  rintro e w4 ⟨rfl, b4⟩
  have s4 := b4.size
  replace od := od.below b4
  replace ov := ov.below b4
  replace ox := ox.below b4
  replace or := or.below b4
  replace hB := below_later hB b4 (Nat.le_refl _)
  clear b4
  clear or
  by_cases hx : (wrS d a vs).length = 0
  · go_wp2_with fail
    refine (alive_any _).mono ?_
    rintro e w5 ⟨rfl, b5⟩
    have s5 := b5.size
    replace od := od.below b5
    replace ov := ov.below b5
    replace ox := ox.below b5
    replace hB := below_later hB b5 (Nat.le_refl _)
    clear b5
    go_wp2_with fail
    go_ret
    exact ⟨rfl, hB⟩
  · have hok := wrS_ok d a vs (fun e => hx (by rw [e]; rfl))
    have hv := (allw_iff _ _ _).1 hok.2.1
    have HV := Lib.hid hv
    have HE : Hid (wrS (wrS d a vs) a (vs.map fun v => 255 - v) = wrS d a (vs.map fun v => 255 - v)) := wrS_twice d a vs hok.1 hok.2.1 hok.2.2 _ (allw_flip vs hok.2.1) (by simp)
    clear hok hv
    have hne : (((wrS d a vs).length : Int) == 0) = false := beq_eq_false_iff_ne.2 (by omega)
    have hx0 : 0 < (wrS d a vs).length := by omega
    clear hx
    have oe : Own (w4.alloc (.cells #[] 3)) w4.heap.size (w4.heap.size + 1) 3 1 (some ⟨w4.heap.size, 0, none⟩) 0 0 (ints []) := empty_made w4 3 1
    go_wp2_with fail
    go_loopw [7, 8] (fun t i wr => ∃ (k : Nat) (A7 : Option Addr) (c7 : Nat), k ≤ vs.length ∧ i = .int .i64 k ∧ t = .slice A7 k c7 ∧ Own wr w4.heap.size wr.heap.size 3 1 A7 k c7 (ints ((vs.take k).map fun v => 255 - v)) ∧ Below w4.heap.size w4 wr) (fun _ i _ => vs.length - (intOf i).toNat)
    case atStart => exact ⟨0, _, 0, Nat.zero_le _, rfl, rfl, oe.wide (Nat.le_refl _) (by simp), below_new _ _⟩
    case round =>
      obtain ⟨k, A7, c7, hk, rfl, rfl, o7, b7⟩ := hrel
      have hc7 := o7.cap
      have s7 := b7.size
      by_cases hlt : k < vs.length
      · have ov7 := ov.below b7
        obtain ⟨b, o, rfl, _, hcell⟩ := ov7.sees.int_at (by omega)
        have hv7 := hcell k hlt
        have hvb := HV.out vs[k] (List.getElem_mem hlt)
        have HM : Hid (ints ((vs.take (k + 1)).map fun v => 255 - v) = ints ((vs.take k).map fun v => 255 - v) ++ [.int .i64 (255 - vs[k])]) := by
          show _ = _
          rw [List.take_succ_eq_append_getElem hlt, List.map_append]; unfold ints; rw [List.map_append]; rfl
        clear hcell
        generalize vs[k] = v at hv7 hvb HM
        have o7' := o7.below (below_new wr (.cells #[.int .i64 (255 - v)] 3))
        go_wp2_with (at_builtin; refine wpList_app _ rfl (.tmp 40) (.tmp 46) _ rfl 3 i0 (.int .i64 0) 1 8 Try.underlying23 hi0 hz0 hz1 hz2 rfl (by decide) _ _ _ _ _ _ rfl o7' _ _ _ _ _ rfl (Sees.one wr 3 (.int .i64 (255 - v))) (one_int _) (by omega) (by omega) (by simp; omega) ?_; intro A8 c8 w8 o8 f8)
        rw [← HM.out] at o8
        have b8 := f8.below (below_later b7 (below_new wr (.cells #[.int .i64 (255 - v)] 3)) (Nat.le_refl _)) (Nat.le_refl _) (Nat.le_refl _)
        clear f8 o7' o7 b7 ov7 hv7
        go_wp2
        go_roundw
        case rel => exact ⟨k + 1, A8, c8, by omega, by go_num, rfl, o8, b8⟩
        case measure => simp [intOf]; omega
      · obtain rfl : k = vs.length := by omega
        rw [List.take_length] at o7
        have e7 : vs.length = (vs.map fun v => 255 - v).length := by simp
        have l1 := wrS_64 d a (vs.map fun v => 255 - v)
        have l2 := wrS_64 (wrS d a vs) a (vs.map fun v => 255 - v)
        clear oe
        have HE7 := Lib.hid e7
        clear e7
        replace hB := below_later hB b7 (Nat.le_refl _)
        replace od := od.below b7
        replace ox := ox.below b7
        replace ov := ov.below b7
        clear b7
        go_wp2_with fail
        refine (implWriteSectors_any _ _ _ _ _ _ _ _ _ _ _ _ ox.sees (by omega) o7.sees (Nat.le_refl _)).mono ?_
        rintro e w5 ⟨Ap, cp, rfl, op, b5⟩
        have s5 := b5.size
        replace od := od.below b5
        replace ov := ov.below b5
        replace ox := ox.below b5
        replace o7 := o7.below b5
        replace hB := below_later hB b5 (Nat.le_refl _)
        clear b5
        go_wp2_with fail
        refine (implWriteSectors_any _ _ _ _ _ _ _ _ _ _ _ _ od.sees (by omega) o7.sees (by omega)).mono ?_
        rintro e w6 ⟨Aq, cq, rfl, oq, b6⟩
        have s6 := b6.size
        replace od := od.below b6
        replace ov := ov.below b6
        replace ox := ox.below b6
        replace o7 := o7.below b6
        replace op := op.below b6
        replace hB := below_later hB b6 (Nat.le_refl _)
        clear b6
        go_wp2_with fail
        refine (sameInts_e _ _ _ _ _ _ _ _ _ _ _ op.sees oq.sees HE).mono ?_
        rintro e w7 ⟨rfl, b7⟩
        have s7 := b7.size
        replace od := od.below b7
        replace ov := ov.below b7
        replace ox := ox.below b7
        replace o7 := o7.below b7
        replace op := op.below b7
        replace oq := oq.below b7
        replace hB := below_later hB b7 (Nat.le_refl _)
        clear b7
        go_wp2_with fail
        go_ret
        exact ⟨rfl, hB⟩
end Go.Proofs.Ythjmjnekimkflaa
