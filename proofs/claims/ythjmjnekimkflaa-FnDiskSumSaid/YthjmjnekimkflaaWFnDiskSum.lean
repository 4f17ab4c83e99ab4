/-
  Walk: the law FnDiskSum returns true.
-/
import Derived.Test.YthjmjnekimkflaaA
import Derived.Test.YthjmjnekimkflaaD5
import Derived.Test.YthjmjnekimkflaaP4
namespace Go.Proofs.Ythjmjnekimkflaa
open Go.RowKit
theorem law_FnDiskSum (w : World) (A : Option Addr) (n c : Nat) (bs : List Int) (h : Sees w w.heap.size 1 A n c (byts bs)) (hb : ∀ v ∈ bs, 0 ≤ v ∧ v ≤ 255) :
    Calls Try.prog 8 #[.slice A n c] w (RetPure w (.bool true)) := by
  have hc1 := h.cap
  have hc2 := h.big
  obtain ⟨i0, hi0, hz0, hz1, hz2⟩ := info_parts int_info
  by_cases hbail : 1048576 < n
  · go_enter Try.func8, Try.ntmps8
    go_wp2_with fail
    go_ret
    exact ⟨rfl, Below.refl _ _⟩
  have hB : Below w.heap.size w w := Below.refl _ _
  go_enter Try.func8, Try.ntmps8
  go_wp2_with fail
  refine (drawDiskSum_any _ _ _ _ _ _ h (Nat.le_refl _) hb).mono ?_
  rintro e w1 ⟨Ad, nd, cd, d, rfl, od, hnd, b1⟩
  obtain rfl := od.sees.int
  have s1 := b1.size
  replace hB := below_later hB b1 (Nat.le_refl _)
  clear b1
  clear h hb
  have hcd := od.cap
  have hbd := od.big
  by_cases hd : dval d = false
  · have hn := dsum_no d hd
    go_wp2_with fail
    refine (implDiskSum_any _ _ _ _ _ _ od.sees).mono ?_
    rintro e w' ⟨rfl, rfl⟩
    go_wp2_with fail
    refine (specDiskSum_any _ _ _ _ _ _ od.sees).mono ?_
    rintro e w' ⟨rfl, rfl⟩
    go_wp2_with fail
    refine (alive_any _).mono ?_
    rintro e w2 ⟨rfl, b2⟩
    have s2 := b2.size
    replace od := od.below b2
    replace hB := below_later hB b2 (Nat.le_refl _)
    clear b2
    go_wp2_with fail
    go_ret
    exact ⟨rfl, hB⟩
  · rw [Bool.not_eq_false] at hd
    have hs := sumS_range d
    rw [← dsum_of d hd] at hs
    have HV := Lib.hid ((dval_iff d).1 hd).2
    have h64 := ((dval_iff d).1 hd).1
    go_wp2_with fail
    refine (implDiskSum_any _ _ _ _ _ _ od.sees).mono ?_
    rintro e w' ⟨rfl, rfl⟩
    go_wp2_with fail
    refine (specDiskSum_any _ _ _ _ _ _ od.sees).mono ?_
    rintro e w' ⟨rfl, rfl⟩
    have HD := Lib.hid hd
    clear hd
    go_wp2_with fail
    go_loopw [5] (fun i wr => ∃ (k : Nat), k ≤ d.length ∧ i = .int .i64 k ∧ Below w1.heap.size w1 wr) (fun i _ => d.length - (intOf i).toNat)
    case atStart => exact ⟨0, Nat.zero_le _, rfl, Below.refl _ _⟩
    case round =>
      obtain ⟨k, hk, rfl, b7⟩ := hrel
      have s7 := b7.size
      replace od := od.below b7
      replace hB := below_later hB b7 (Nat.le_refl _)
      by_cases hlt : k < d.length
      · have hvb := HV.out d[k] (List.getElem_mem hlt)
        have hne : (dsum (d.set k ((d[k] + 1) % 256)) == dsum d) = false := beq_eq_false_iff_ne.2 (dsum_ne d k HD.out hlt)
        go_wp2_with (at_builtin; refine wpList_app _ rfl (.tmp 31) (.tmp 32) _ rfl 3 i0 (.int .i64 0) 1 8 Try.underlying23 hi0 hz0 hz1 hz2 rfl (by decide) wr.heap.size (wr.heap.size + 1) _ 0 0 [] rfl (empty_made wr 3 1) _ _ _ _ _ rfl (od.below (below_new wr (.cells #[] 3))).sees (ints_one _) (by omega) (by omega) (by simp) ?_; intro A8 c8 w8 o8 f8; simp only [Nat.zero_add, List.nil_append] at o8; have b8 := f8.below (below_new wr (.cells #[] 3)) (Nat.le_refl _) (Nat.le_refl _); clear f8; obtain ⟨g8, rfl, hg1, hg2, hg3⟩ := o8.head (by omega); have hc8 := o8.cap; have hx := o8.cell rfl k _ (ints_get d k hlt); have hfz := o8.frozen rfl k; have o9 := o8.set rfl k (.int .i64 ((d[k] + 1) % 256)); rw [ints_set] at o9; have b9 : Below wr.heap.size wr (w8.setCell ⟨g8, k, none⟩ (.int .i64 ((d[k] + 1) % 256))) := b8.setCell hg1 _; generalize d[k] = v at *; clear o8 b8)
        refine (implDiskSum_any _ _ _ _ _ _ o9.sees).mono ?_
        rintro e w' ⟨rfl, rfl⟩
        go_wp2_with fail
        go_roundw
        case rel => exact ⟨k + 1, by omega, by go_num, below_later b7 b9 (Nat.le_refl _)⟩
        case measure => simp [intOf]; omega
      · by_cases h6 : d.length = 64
        · have h64b : ((d.length : Int) == 64) = true := beq_iff_eq.2 (by omega)
          go_wp2_with fail
          go_ret
          exact ⟨rfl, hB⟩
        · have hne64 : ((d.length : Int) == 64) = false := beq_eq_false_iff_ne.2 (by omega)
          have hsn : ((dsum (d ++ [7])) == (33 * dsum d + 7) % 65521) = true := beq_iff_eq.2 (dsum_snoc d HD.out h6)
          go_wp2_with (first
            | (at_builtin; refine wpList_app _ rfl (.tmp 54) (.tmp 55) _ rfl 3 i0 (.int .i64 0) 1 8 Try.underlying23 hi0 hz0 hz1 hz2 rfl (by decide) wr.heap.size (wr.heap.size + 1) _ 0 0 [] rfl (empty_made wr 3 1) _ _ _ _ _ rfl (od.below (below_new wr (.cells #[] 3))).sees (ints_one _) (by omega) (by omega) (by simp) ?_; intro Ae ce w2 oe f2; simp only [Nat.zero_add, List.nil_append] at oe; have b2 := f2.below (below_new wr (.cells #[] 3)) (Nat.le_refl _) (Nat.le_refl _); clear f2; have s2 := b2.size; replace od := od.below b2; replace hB := below_later hB b2 (Nat.le_refl _); clear b2)
            | (at_builtin; refine wpList_app _ rfl (.tmp 56) (.tmp 57) _ rfl 3 i0 (.int .i64 0) 1 8 Try.underlying23 hi0 hz0 hz1 hz2 rfl (by decide) _ _ _ _ _ _ rfl (oe.below (below_new w2 (.cells #[.int .i64 7] 3))) _ _ _ _ _ rfl (Sees.one w2 3 (.int .i64 7)) (one_int _) (by omega) (by omega) (le_alloc _ _ (by omega)) ?_; intro Af cf w3 of f3; rw [show ints d ++ [.int .i64 7] = ints (d ++ [7]) by simp [ints]] at of; have g3 := below_new w2 (.cells #[.int .i64 7] 3); have s3 : w2.heap.size ≤ w3.heap.size := f3.size_alloc; replace od := (od.below g3).fr f3 (by omega); replace hB := f3.below (below_later hB g3 (Nat.le_refl _)) (by omega) (Nat.le_refl _); clear f3 g3; clear oe))
          go_wp2_with fail
          refine (implDiskSum_any _ _ _ _ _ _ of.sees).mono ?_
          rintro e w' ⟨rfl, rfl⟩
          go_wp2_with fail
          go_ret
          exact ⟨rfl, hB⟩
end Go.Proofs.Ythjmjnekimkflaa
