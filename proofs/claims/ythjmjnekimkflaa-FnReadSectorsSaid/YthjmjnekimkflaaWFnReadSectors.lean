/-
  Walk: the law FnReadSectors returns true.
-/
import Derived.Test.YthjmjnekimkflaaA
import Derived.Test.YthjmjnekimkflaaD5
import Derived.Test.YthjmjnekimkflaaP5
namespace Go.Proofs.Ythjmjnekimkflaa
open Go.RowKit
theorem law_FnReadSectors (w : World) (A : Option Addr) (n c : Nat) (bs : List Int) (h : Sees w w.heap.size 1 A n c (byts bs)) (hb : ∀ v ∈ bs, 0 ≤ v ∧ v ≤ 255) :
    Calls Try.prog 10 #[.slice A n c] w (RetPure w (.bool true)) := by
  have hc1 := h.cap
  have hc2 := h.big
  obtain ⟨i0, hi0, hz0, hz1, hz2⟩ := info_parts int_info
  by_cases hbail : 1048576 < n
  · go_enter Try.func10, Try.ntmps10
    go_wp2_with fail
    go_ret
    exact ⟨rfl, Below.refl _ _⟩
  have hB : Below w.heap.size w w := Below.refl _ _
  go_enter Try.func10, Try.ntmps10
  go_wp2_with fail
  refine (drawRead_any _ _ _ _ _ _ h (Nat.le_refl _) hb).mono ?_
  rintro e w1 ⟨Ad, nd, cd, d, a, m, rfl, od, hnd, ha, hm, b1⟩
  obtain rfl := od.sees.int
  have s1 := b1.size
  replace hB := below_later hB b1 (Nat.le_refl _)
  clear b1
  clear h hb
  have hlen : (rdS d a m).length ≤ 64 := rdS_64 d a m
  go_wp2_with fail
  refine (implReadSectors_any _ _ _ _ _ _ _ _ od.sees (by omega)).mono ?_
  rintro e w2 ⟨Ax, cx, rfl, ox, b2⟩
  have s2 := b2.size
  replace od := od.below b2
  replace hB := below_later hB b2 (Nat.le_refl _)
  clear b2
  go_wp2_with fail
  refine (specReadSectors_any _ _ _ _ _ _ _ _ od.sees (by omega)).mono ?_
  rintro e w3 ⟨Ar, cr, rfl, or, b3⟩
  have s3 := b3.size
  replace od := od.below b3
  replace ox := ox.below b3
  replace hB := below_later hB b3 (Nat.le_refl _)
  clear b3
  go_wp2_with fail
  refine (sameInts_t _ _ _ _ _ _ _ _ _ _ ox.sees or.sees).mono ?_
  rintro e w4 ⟨rfl, b4⟩
  have s4 := b4.size
  replace od := od.below b4
  replace ox := ox.below b4
  replace or := or.below b4
  replace hB := below_later hB b4 (Nat.le_refl _)
  clear b4
  clear or
  by_cases hx : (rdS d a m).length = 0
  · go_wp2_with fail
    refine (alive_any _).mono ?_
    rintro e w5 ⟨rfl, b5⟩
    have s5 := b5.size
    replace od := od.below b5
    replace ox := ox.below b5
    replace hB := below_later hB b5 (Nat.le_refl _)
    clear b5
    go_wp2_with fail
    go_ret
    exact ⟨rfl, hB⟩
  · have hok := rdS_ok d a m (fun e => hx (by rw [e]; rfl))
    have hle : (((rdS d a m).length : Int) == m) = true := beq_iff_eq.2 (rdS_len d a m hok.1 hok.2)
    have hi := (strch_iff _ _ _).1 hok.2
    have h64 := ((dval_iff d).1 hok.1).1
    have HS := Lib.hid (rdS_split d a m (m / 2) hok.1 hok.2 (by omega) (by omega))
    have HA := Lib.hid (rdS_all d hok.1)
    have l1 := rdS_64 d a (m / 2)
    have l2 := rdS_64 d (a + m / 2) (m - m / 2)
    clear hok
    go_wp2_with fail
    refine (implReadSectors_any _ _ _ _ _ _ _ _ od.sees (by omega)).mono ?_
    rintro e w5 ⟨Ap, cp, rfl, op, b5⟩
    have s5 := b5.size
    replace od := od.below b5
    replace ox := ox.below b5
    replace hB := below_later hB b5 (Nat.le_refl _)
    clear b5
    go_wp2_with fail
    refine (implReadSectors_any _ _ _ _ _ _ _ _ od.sees (by omega)).mono ?_
    rintro e w6 ⟨Aq, cq, rfl, oq, b6⟩
    have s6 := b6.size
    replace od := od.below b6
    replace ox := ox.below b6
    replace op := op.below b6
    replace hB := below_later hB b6 (Nat.le_refl _)
    clear b6
    go_wp2_with (first
      | (at_builtin; refine wpList_app _ rfl (.tmp 42) (.tmp 50) _ rfl 3 i0 (.int .i64 0) 1 8 Try.underlying23 hi0 hz0 hz1 hz2 rfl (by decide) _ _ _ _ _ _ rfl op _ _ _ _ _ rfl oq.sees (ints_one _) (by omega) (by omega) (by omega) ?_; intro As cs w7 os f7; rw [show ints (rdS d a (m / 2)) ++ ints (rdS d (a + m / 2) (m - m / 2)) = ints (rdS d a m) by rw [← HS.out]; simp [ints]] at os; have s7 := f7.size; replace od := od.fr f7 (by omega); replace ox := ox.fr f7 (by omega); replace oq := oq.fr f7 (by omega); replace hB := f7.below hB (by omega) (Nat.le_refl _); clear f7; clear op))
    go_wp2_with fail
    refine (sameInts_t _ _ _ _ _ _ _ _ _ _ os.sees ox.sees).mono ?_
    rintro e w8 ⟨rfl, b8⟩
    have s8 := b8.size
    replace od := od.below b8
    replace ox := ox.below b8
    replace oq := oq.below b8
    replace os := os.below b8
    replace hB := below_later hB b8 (Nat.le_refl _)
    clear b8
    have l3 := rdS_64 d 0 d.length
    go_wp2_with fail
    refine (implReadSectors_any _ _ _ _ _ _ _ _ od.sees (by omega)).mono ?_
    rintro e w9 ⟨Au, cu, rfl, ou, b9⟩
    have s9 := b9.size
    replace od := od.below b9
    replace ox := ox.below b9
    replace oq := oq.below b9
    replace os := os.below b9
    replace hB := below_later hB b9 (Nat.le_refl _)
    clear b9
    go_wp2_with fail
    refine (sameInts_e _ _ _ _ _ _ _ _ _ _ _ ou.sees od.sees HA).mono ?_
    rintro e w10 ⟨rfl, b10⟩
    have s10 := b10.size
    replace od := od.below b10
    replace ox := ox.below b10
    replace oq := oq.below b10
    replace os := os.below b10
    replace ou := ou.below b10
    replace hB := below_later hB b10 (Nat.le_refl _)
    clear b10
    go_wp2_with fail
    go_ret
    exact ⟨rfl, hB⟩
end Go.Proofs.Ythjmjnekimkflaa
