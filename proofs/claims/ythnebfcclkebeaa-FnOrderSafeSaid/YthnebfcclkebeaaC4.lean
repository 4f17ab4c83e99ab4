/-
  Walks: l2Do of the reference (writes a command's sectors into the call's own slice).
-/
import Derived.Test.YthnebfcclkebeaaC3
import Derived.Test.YthnebfcclkebeaaD4
namespace Go.Proofs.Ythnebfcclkebeaa
open Go.RowKit

theorem l2Do_any (A : Option Addr) (c : Nat) (d : List Int) (cm : Cmd) (w : World) (lo hi : Nat) (h : Own w lo hi 3 1 A d.length c (ints d)) (hv : cval cm d.length = true) (hlo : hi ≤ w.heap.size) :
    Calls Try.prog 70 #[.slice A d.length c, cmdV cm] w (fun e w' => e = .returned (.tuple #[]) ∧ Own w' lo hi 3 1 A d.length c (ints (xdisk d cm)) ∧ Fr lo hi w w') := by
  have hc1 := h.cap
  have hc2 := h.big
  have hcv := (cval_iff _ _).1 hv
  by_cases hk : cm.kind = 2 ∨ cm.kind = 3
  · obtain ⟨k, p, n, v⟩ := cm
    simp only at hcv hk
    obtain ⟨p, rfl⟩ := Int.eq_ofNat_of_zero_le (show 0 ≤ p by omega)
    obtain ⟨n, rfl⟩ := Int.eq_ofNat_of_zero_le (show 0 ≤ n by omega)
    have hx : xdisk d ⟨k, p, n, v⟩ = spl d (List.replicate n v) p n := by
      unfold xdisk spl
      simp only
      rw [if_pos hk, List.take_of_length_le (l := List.replicate n v) (by simp), Int.toNat_natCast, Int.toNat_natCast]
    rw [hx]
    have HX := Lib.hid hx
    clear hx
    have hlen : p + n ≤ d.length := by omega
    have hn1 : 1 ≤ n := by omega
    obtain ⟨g, rfl, hg1, hg2, hg3⟩ := h.head (by omega)
    have hk1 : (k != 1) = true := bne_iff_ne.2 (by omega)
    clear hcv hv hk
    have HS := Lib.hid (fun i => spl_length d (List.replicate n v) p i)
    simp only [cmdV]
    go_enter Try.func70, Try.ntmps70
    go_wp2_with fail
    go_loopw [4] (fun i wr => ∃ (j : Nat), j ≤ n ∧ i = .int .i64 j ∧ Own wr lo hi 3 1 (some ⟨g, 0, none⟩) d.length c (ints (spl d (List.replicate n v) p j)) ∧ Fr lo hi (w.alloc (.cells #[.int .i64 k, .int .i64 p, .int .i64 n, .int .i64 v] 55)) wr) (fun i _ => n - (intOf i).toNat)
    case atStart => exact ⟨0, Nat.zero_le _, rfl, by rw [spl_zero]; exact h.below (below_new _ _), Fr.refl _ _ _⟩
    case round =>
      obtain ⟨j, hj, rfl, ho, hf⟩ := hrel
      have r0 : wr.heap[w.heap.size]? = some (.cells #[.int .i64 k, .int .i64 p, .int .i64 n, .int .i64 v] 55 (0, 0)) := (hf.block _ (by simp) (.inr hlo)).trans (heap_alloc_new w _)
      obtain ⟨m0, m1, m2, m3⟩ := cells4 r0
      have hF : Fr lo hi w wr := ⟨hf.os, hf.tape, hf.output, hf.size_alloc, fun q hq hh => (hf.block q (by simp; omega) hh).trans ((below_new w _).block q hq)⟩
      by_cases hlt : j < n
      · have hsl : (spl d (List.replicate n v) p j).length = d.length := HS.out j (by omega) (by simp; omega)
        have hfz := ho.frozen rfl (p + j)
        have hx := ho.cell rfl (p + j) _ (ints_get _ (p + j) (by omega))
        have ho2 := ho.set rfl (p + j) (.int .i64 v)
        have hst := spl_step d (List.replicate n v) p j (by omega) (by simpa using hlt)
        rw [List.getElem_replicate] at hst
        rw [ints_set, hst] at ho2
        have hf2 := hf.set hg1 hg2 (p + j) (.int .i64 v)
        generalize (spl d (List.replicate n v) p j)[p + j]'(by omega) = old at hx
        clear hst hsl ho
        go_wp2
        go_roundw
        case rel => exact ⟨j + 1, by omega, by go_num, ho2, hf2⟩
        case measure => simp [intOf]; omega
      · obtain rfl : j = n := by omega
        go_wp2_with fail
        exact bodyPost_end (v := .tuple #[]) (by simp [results, Try.results70, go_sem]) rfl ⟨rfl, ho, hF⟩
  · obtain ⟨k, p, n, v⟩ := cm
    simp only at hcv hk
    rw [xdisk_same d _ (by show k = 1 ∨ k = 4; omega)]
    have hf : Fr lo hi w (w.alloc (.cells #[.int .i64 k, .int .i64 p, .int .i64 n, .int .i64 v] 55)) := Fr.of_below (below_new _ _) _ _
    have ho := h.below (below_new w (.cells #[.int .i64 k, .int .i64 p, .int .i64 n, .int .i64 v] 55))
    clear hv
    simp only [cmdV]
    rcases (show k = 1 ∨ (k = 4 ∧ n = 0) by omega) with rfl | ⟨rfl, rfl⟩
    · go_enter Try.func70, Try.ntmps70
      go_wp2_with fail
      go_loopw [4] (fun i wr => i = .int .i64 0 ∧ wr = w.alloc (.cells #[.int .i64 1, .int .i64 p, .int .i64 n, .int .i64 v] 55)) (fun _ _ => 0)
      case atStart => exact ⟨rfl, rfl⟩
      case round =>
        obtain ⟨rfl, rfl⟩ := hrel
        go_wp2_with fail
        exact bodyPost_end (v := .tuple #[]) (by simp [results, Try.results70, go_sem]) rfl ⟨rfl, ho, hf⟩
    · go_enter Try.func70, Try.ntmps70
      go_wp2_with fail
      go_loopw [4] (fun i wr => i = .int .i64 0 ∧ wr = w.alloc (.cells #[.int .i64 4, .int .i64 p, .int .i64 0, .int .i64 v] 55)) (fun _ _ => 0)
      case atStart => exact ⟨rfl, rfl⟩
      case round =>
        obtain ⟨rfl, rfl⟩ := hrel
        go_wp2_with fail
        exact bodyPost_end (v := .tuple #[]) (by simp [results, Try.results70, go_sem]) rfl ⟨rfl, ho, hf⟩
end Go.Proofs.Ythnebfcclkebeaa
