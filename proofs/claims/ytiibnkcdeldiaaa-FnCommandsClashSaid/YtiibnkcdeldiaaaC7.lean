/-
  Walk: ExecuteCommand of the program.
-/
import Derived.Test.YtiibnkcdeldiaaaC6
import Derived.Deep.DeepCutAuto
namespace Go.Proofs.Ytiibnkcdeldiaaa
open Go.RowKit

theorem exD_64 (d : List Int) (cm : Cmd) : (exD d cm).length ≤ 64 := by
  unfold exD
  split
  · next h =>
    rw [Bool.and_eq_true] at h
    rw [xdisk_len d cm h.2]
    have := ((dval_iff d).1 h.1).1
    omega
  · simp
theorem exR_64 (d : List Int) (cm : Cmd) : (exR d cm).length ≤ 64 := by
  unfold exR
  split
  · next h =>
    rw [Bool.and_eq_true] at h
    have := ((dval_iff d).1 h.1).1
    unfold xread
    split
    · rw [List.length_take, List.length_drop]; omega
    · simp
  · simp
theorem RetPair.after {w w1 : World} {xs ys : List Int} {en : Ending} {w' : World} (h : RetPair w1 xs ys en w') (hB : Below w.heap.size w w1) : RetPair w xs ys en w' := by
  obtain ⟨A, c, A', c', mid, rfl, o, o', h1, h2, hb⟩ := h
  have := hB.size
  exact ⟨A, c, A', c', mid, rfl, o.wide this (Nat.le_refl _), o', by omega, h2, below_later hB hb (Nat.le_refl _)⟩
/-- behind a statement that leaves a pair of new slices: the box of the struct parameter stands, and nothing that was there has changed -/
def AtPair (w wx : World) (o : Obj) (xs ys : List Int) (x y : Value) : Prop :=
  wx.heap[w.heap.size]? = some o ∧ ∃ A c A' c' lo mid, x = .slice A xs.length c ∧ y = .slice A' ys.length c' ∧ Own wx lo mid 3 1 A xs.length c (ints xs) ∧ Own wx mid wx.heap.size 3 1 A' ys.length c' (ints ys) ∧ w.heap.size < lo ∧ lo ≤ mid ∧ mid ≤ wx.heap.size ∧ Below w.heap.size w wx
theorem pair_nil {w W : World} (hB : Below w.heap.size w W) : RetPair w [] [] (.returned (.tuple #[.slice none 0 0, .slice none 0 0])) W :=
  RetPair.of (Own.nil _ _ W.heap.size _ _) (Own.nil _ _ W.heap.size _ _) hB.size (Nat.le_refl _) (Nat.le_refl _) hB
theorem implExecuteCommand_any (A : Option Addr) (n c B : Nat) (d : List Int) (cm : Cmd) (w : World) (h : Sees w B 1 A n c (ints d)) (hB : B ≤ w.heap.size) :
    Calls Try.prog 18 #[.slice A n c, cmdV cm] w (RetPair w (exD d cm) (exR d cm)) := by
  obtain rfl := h.int
  have hc1 := h.cap
  have hc2 := h.big
  obtain ⟨k, p, m, v⟩ := cm
  have hsee0 := h.below ((Below.refl B w).alloc hB (.cells #[.int .i64 k, .int .i64 p, .int .i64 m, .int .i64 v] 24)) (Nat.le_refl _)
  simp only [cmdV]
  cases hd : dval d with
  | false =>
    rw [exD_no (by simp [hd]), exR_no (by simp [hd])]
    go_enter Try.func18, Try.ntmps18
    go_wp2_with fail
    refine (implDiskValid_any _ _ _ _ _ _ hsee0).mono ?_
    rw [hd]
    rintro e w' ⟨rfl, rfl⟩
    go_wp2_with fail
    refine bodyPost_ret (results_tmp2 rfl _ _ _) rfl ?_
    exact pair_nil (below_new w _)
  | true =>
    cases hc : cval ⟨k, p, m, v⟩ d.length with
    | false =>
      rw [exD_no (by simp [hc]), exR_no (by simp [hc])]
      go_enter Try.func18, Try.ntmps18
      go_wp2_with fail
      refine (implDiskValid_any _ _ _ _ _ _ hsee0).mono ?_
      rw [hd]
      rintro e w' ⟨rfl, rfl⟩
      go_wp2_with fail
      refine (implCommandValid_any _ _ _ _ _ _ (by omega)).mono ?_
      rw [hc]
      rintro e w1 ⟨rfl, b1⟩
      go_wp2_with fail
      refine bodyPost_ret (results_tmp2 rfl _ _ _) rfl ?_
      exact pair_nil (below_later (below_new w _) b1 (by simp))
    | true =>
      rw [exD_of hd hc, exR_of hd hc]
      go_enter Try.func18, Try.ntmps18
      go_wp2_with fail
      refine (implDiskValid_any _ _ _ _ _ _ hsee0).mono ?_
      rw [hd]
      rintro e w' ⟨rfl, rfl⟩
      go_wp2_with fail
      refine (implCommandValid_any _ _ _ _ _ _ (by omega)).mono ?_
      rw [hc]
      rintro e w1 ⟨rfl, b1⟩
      have r0 := keepRow (heap_alloc_new w _) b1
      have hB1 := below_later (below_new w _) b1 (by simp)
      have hs1 := hB1.size
      have hsee1 := h.below hB1 hB
      obtain ⟨m0, m1, m2, m3⟩ := cells4 r0
      clear b1 hsee0
      go_wp2_with fail
      refine (executed_any _ _ _ d ⟨k, p, m, v⟩ _ hsee1 (by omega) hc).mono ?_
      rintro e w2 hp
      replace hp := hp.after hB1
      obtain ⟨A1, c1, A2, c2, mid, rfl, o1, o2, h1, h2, hb⟩ := hp
      go_wp2_with fail
      refine bodyPost_ret (results_tmp2 rfl _ _ _) rfl ?_
      exact ⟨A1, c1, A2, c2, mid, rfl, o1, o2, h1, h2, hb⟩
end Go.Proofs.Ytiibnkcdeldiaaa
