/-
  Words for lists of lists of numbers in memory (rows), and what a walk of ExecuteBatch leaves.
-/
import Derived.Test.YthnebfcclkebeaaM3
import Derived.Test.YthnebfcclkebeaaM5
import Derived.Test.YthnebfcclkebeaaC7
import Derived.Test.YthnebfcclkebeaaS4
namespace Go.Proofs.Ythnebfcclkebeaa
open Go.RowKit
set_option linter.unusedSimpArgs false
set_option linter.unusedVariables false
/-- a call's end: two new slices of known lengths -/
def RetPairN (w : World) (xs ys : List Int) (n m : Nat) (en : Ending) (w' : World) : Prop :=
  ∃ A c A' c' mid, en = .returned (.tuple #[.slice A n c, .slice A' m c']) ∧ Own w' w.heap.size mid 3 1 A n c (ints xs) ∧ Own w' mid w'.heap.size 3 1 A' m c' (ints ys) ∧ w.heap.size ≤ mid ∧ mid ≤ w'.heap.size ∧ Below w.heap.size w w'
theorem RetPair.n {w : World} {xs ys : List Int} {n m : Nat} {en : Ending} {w' : World} (h : RetPair w xs ys en w') (h1 : xs.length = n) (h2 : ys.length = m) : RetPairN w xs ys n m en w' := by subst h1 h2; exact h
/-- row k lies in the blocks from L k on and below H k -/
def RowsAt (w : World) (L H : Nat → Nat) (vs : List Value) (xs : List (List Int)) : Prop :=
  vs.length = xs.length ∧ ∀ k (x : List Int), xs[k]? = some x → ∃ A n c, vs[k]? = some (.slice A n c) ∧ Own w (L k) (H k) 3 1 A n c (ints x)
theorem RowsAt.nil (w : World) (L H : Nat → Nat) : RowsAt w L H [] [] := ⟨rfl, fun k x h => by simp at h⟩
theorem RowsAt.below {w w' : World} {L H : Nat → Nat} {vs : List Value} {xs : List (List Int)} (h : RowsAt w L H vs xs) (b : Below w.heap.size w w') : RowsAt w' L H vs xs :=
  ⟨h.1, fun k x hx => by obtain ⟨A, n, c, h1, h2⟩ := h.2 k x hx; exact ⟨A, n, c, h1, h2.below b⟩⟩
theorem RowsAt.fr {w w' : World} {L H : Nat → Nat} {vs : List Value} {xs : List (List Int)} {lo hi : Nat} (h : RowsAt w L H vs xs) (f : Fr lo hi w w') (ha : ∀ k, k < xs.length → hi ≤ L k ∨ H k ≤ lo) : RowsAt w' L H vs xs :=
  ⟨h.1, fun k x hx => by
    obtain ⟨A, n, c, h1, h2⟩ := h.2 k x hx
    have hk : k < xs.length := (List.getElem?_eq_some_iff.1 hx).1
    exact ⟨A, n, c, h1, h2.fr f (by have := ha k hk; omega)⟩⟩
def upd (f : Nat → Nat) (j v : Nat) : Nat → Nat := fun k => if k = j then v else f k
theorem upd_at (f : Nat → Nat) (j v : Nat) : upd f j v j = v := by simp [upd]
theorem upd_ne (f : Nat → Nat) (j v k : Nat) (h : k ≠ j) : upd f j v k = f k := by simp [upd, h]
theorem RowsAt.snoc {w : World} {L H : Nat → Nat} {vs : List Value} {xs : List (List Int)} {l m : Nat} {A : Option Addr} {n c : Nat} {x : List Int} (h : RowsAt w L H vs xs) (o : Own w l m 3 1 A n c (ints x)) :
    RowsAt w (upd L xs.length l) (upd H xs.length m) (vs ++ [.slice A n c]) (xs ++ [x]) := by
  refine ⟨by rw [List.length_append, List.length_append, h.1]; rfl, fun k y hy => ?_⟩
  rcases Nat.lt_or_ge k xs.length with hk | hk
  · rw [List.getElem?_append_left hk] at hy
    obtain ⟨A', n', c', h1, h2⟩ := h.2 k y hy
    refine ⟨A', n', c', by rw [List.getElem?_append_left (by rw [h.1]; exact hk)]; exact h1, ?_⟩
    rw [upd_ne _ _ _ _ (by omega), upd_ne _ _ _ _ (by omega)]; exact h2
  · have hlt := (List.getElem?_eq_some_iff.1 hy).1
    rw [List.length_append, List.length_singleton] at hlt
    have hk2 : k = xs.length := by omega
    subst hk2
    rw [List.getElem?_append_right (Nat.le_refl _), Nat.sub_self] at hy
    simp only [List.getElem?_cons_zero, Option.some.injEq] at hy
    subst hy
    refine ⟨A, n, c, by rw [List.getElem?_append_right (by rw [h.1]; exact Nat.le_refl _), h.1, Nat.sub_self]; rfl, ?_⟩
    rw [upd_at, upd_at]; exact o
/-- the disk and the rows behind some commands -/
structure St (w wr : World) (A : Option Addr) (n c : Nat) (A' : Option Addr) (k c' : Nat) (D : List Int) (R : List (List Int)) (l m lo hi : Nat) (L H : Nat → Nat) (vs : List Value) : Prop where
  disk : Own wr l m 3 1 A n c (ints D)
  rows : Own wr lo hi 22 1 A' k c' vs
  at_ : RowsAt wr L H vs R
  bd : w.heap.size ≤ l ∧ l ≤ m ∧ m ≤ wr.heap.size
  bo : w.heap.size ≤ lo ∧ lo ≤ hi ∧ hi ≤ wr.heap.size
  br : ∀ k, k < R.length → w.heap.size ≤ L k ∧ L k ≤ H k ∧ H k ≤ wr.heap.size
  do_ : m ≤ lo ∨ hi ≤ l
  dr : ∀ k, k < R.length → m ≤ L k ∨ H k ≤ l
  or_ : ∀ k, k < R.length → hi ≤ L k ∨ H k ≤ lo
  rr : ∀ j k, j < k → k < R.length → H j ≤ L k
  bel : Below w.heap.size w wr
section
variable {w wr : World} {A : Option Addr} {n c : Nat} {A' : Option Addr} {k c' : Nat} {D : List Int} {R : List (List Int)} {l m lo hi : Nat} {L H : Nat → Nat} {vs : List Value}
theorem St.below (s : St w wr A n c A' k c' D R l m lo hi L H vs) {w' : World} (b : Below wr.heap.size wr w') : St w w' A n c A' k c' D R l m lo hi L H vs := by
  have hz := b.size
  have h1 := s.bd
  have h2 := s.bo
  exact ⟨s.disk.below b, s.rows.below b, s.at_.below b, by omega, by omega, fun k hk => by have := s.br k hk; omega, s.do_, s.dr, s.or_, s.rr, below_later s.bel b (Nat.le_refl _)⟩
theorem St.start (o : Own wr l m 3 1 A n c (ints D)) (o' : Own wr lo hi 22 1 A' 0 c' []) (bd : w.heap.size ≤ l ∧ l ≤ m ∧ m ≤ wr.heap.size) (bo : w.heap.size ≤ lo ∧ lo ≤ hi ∧ hi ≤ wr.heap.size) (hd : m ≤ lo ∨ hi ≤ l) (b : Below w.heap.size w wr) :
    St w wr A n c A' 0 c' D [] l m lo hi (fun _ => 0) (fun _ => 0) [] :=
  ⟨o, o', RowsAt.nil _ _ _, bd, bo, fun k hk => absurd hk (by simp), hd, fun k hk => absurd hk (by simp), fun k hk => absurd hk (by simp), fun j k _ hk => absurd hk (by simp), b⟩
theorem St.len (s : St w wr A n c A' k c' D R l m lo hi L H vs) : D.length = n ∧ R.length = k := by
  refine ⟨s.disk.sees.int, ?_⟩
  have := s.rows.len
  rw [s.at_.1] at this; omega
theorem St.next (s : St w wr A n c A' k c' D R l m lo hi L H vs) {w1 w3 : World} {A2 A3 A4 : Option Addr} {c2 c3 c4 mid mY lo2 hi2 : Nat} {X Y : List Int} {o : Obj}
    (o2 : Own w1 wr.heap.size mid 3 1 A2 n c2 (ints X)) (o3 : Own w1 mid w1.heap.size 3 1 A3 mY c3 (ints Y)) (h1 : wr.heap.size ≤ mid) (h2 : mid ≤ w1.heap.size) (b1 : Below wr.heap.size wr w1)
    (o4 : Own w3 lo2 hi2 22 1 A4 (k + 1) c4 (vs ++ [.slice A3 mY c3])) (hlo : (lo2 = lo ∧ hi2 = hi) ∨ (lo2 = (w1.alloc o).heap.size ∧ hi2 = w3.heap.size)) (f : Fr lo hi (w1.alloc o) w3) :
    St w w3 A2 n c2 A4 (k + 1) c4 X (R ++ [Y]) wr.heap.size mid lo2 hi2 (upd L R.length mid) (upd H R.length w1.heap.size) (vs ++ [.slice A3 mY c3]) := by
  have z0 := s.bel.size
  have z1 := b1.size
  have z2 : (w1.alloc o).heap.size = w1.heap.size + 1 := World.size_alloc _ _
  have z3 := f.size
  have q1 := s.bd
  have q2 := s.bo
  have b2 : Below w1.heap.size w1 (w1.alloc o) := below_new w1 o
  have hR : (R ++ [Y]).length = R.length + 1 := by rw [List.length_append]; rfl
  have rw1 := ((s.at_.below b1).below b2).fr f s.or_
  have o3' := (o3.below b2).fr f (.inr (by omega))
  refine ⟨(o2.below b2).fr f (.inr (by omega)), o4, rw1.snoc o3', by omega, by omega, ?_, by omega, ?_, ?_, ?_, f.below (below_later (below_later s.bel b1 (Nat.le_refl _)) b2 (Nat.le_refl _)) (by omega) (Nat.le_refl _)⟩
  · intro j hj
    rw [hR] at hj
    by_cases he : j = R.length
    · subst he; rw [upd_at, upd_at]; omega
    · rw [upd_ne _ _ _ _ he, upd_ne _ _ _ _ he]; have := s.br j (by omega); omega
  · intro j hj
    rw [hR] at hj
    by_cases he : j = R.length
    · subst he; rw [upd_at, upd_at]; omega
    · rw [upd_ne _ _ _ _ he, upd_ne _ _ _ _ he]; have := s.br j (by omega); omega
  · intro j hj
    rw [hR] at hj
    by_cases he : j = R.length
    · subst he; rw [upd_at, upd_at]; omega
    · rw [upd_ne _ _ _ _ he, upd_ne _ _ _ _ he]; have := s.br j (by omega); have := s.or_ j (by omega); omega
  · intro i j hij hj
    rw [hR] at hj
    rw [upd_ne _ _ _ _ (show i ≠ R.length by omega)]
    by_cases he : j = R.length
    · subst he; rw [upd_at]; have := s.br i (by omega); omega
    · rw [upd_ne _ _ _ _ he]; exact s.rr i j hij (by omega)
end
/-- A call's end: a disk and rows in new memory, all of them apart; nothing that was there has changed. -/
def RetBatch (w : World) (D : List Int) (R : List (List Int)) (en : Ending) (w' : World) : Prop :=
  ∃ A n c A' k c' l m lo hi L H vs, en = .returned (.tuple #[.slice A n c, .slice A' k c']) ∧ St w w' A n c A' k c' D R l m lo hi L H vs
theorem RetBatch.nil {w w' : World} (b : Below w.heap.size w w') : RetBatch w [] [] (.returned (.tuple #[.slice none 0 0, .slice none 0 0])) w' := by
  have := b.size
  exact ⟨none, 0, 0, none, 0, 0, w'.heap.size, w'.heap.size, w'.heap.size, w'.heap.size, _, _, _, rfl, St.start (Own.nil _ _ _ _ _) (Own.nil _ _ _ _ _) (by omega) (by omega) (by omega) b⟩
theorem RetBatch.empty {w w' : World} (b : Below w.heap.size w w') : RetBatch w [] [] (.returned (.tuple #[.slice (some ⟨w'.heap.size, 0, none⟩) 0 0, .slice (some ⟨w'.heap.size + 1, 0, none⟩) 0 0])) ((w'.alloc (.cells #[] 3)).alloc (.cells #[] 22)) := by
  have z := b.size
  have e1 := (newEmpty w' 3 1).below (below_new _ (.cells #[] 22))
  have e2 := newEmpty (w'.alloc (.cells #[] 3)) 22 1
  have z1 : (w'.alloc (.cells #[] 3)).heap.size = w'.heap.size + 1 := World.size_alloc _ _
  have z2 : ((w'.alloc (.cells #[] 3)).alloc (.cells #[] 22)).heap.size = (w'.alloc (.cells #[] 3)).heap.size + 1 := World.size_alloc _ _
  rw [z1] at e2
  exact ⟨_, 0, 0, _, 0, 0, _, _, _, _, _, _, _, rfl, St.start e1 e2 (by omega) (by omega) (by omega) ((b.alloc z _).alloc (by omega) _)⟩
theorem runD_step (d : List Int) (l : List Cmd) (k : Nat) (h : k < l.length) : runD d (l.take (k + 1)) = xdisk (runD d (l.take k)) l[k] := by
  rw [List.take_succ_eq_append_getElem h, runD_append]; rfl
theorem runR_step (d : List Int) (l : List Cmd) (k : Nat) (h : k < l.length) : runR d (l.take (k + 1)) = runR d (l.take k) ++ [xread (runD d (l.take k)) l[k]] := by
  rw [List.take_succ_eq_append_getElem h, runR_append]; rfl
theorem row_info : (Try.prog.info? 22).map (fun i => (i.zero, i.size, i.bytes)) = some (some (.slice none 0 0), 1, 24) := by kernel_rfl
theorem one_row (A : Option Addr) (n c : Nat) : ∀ u ∈ [Value.slice A n c], u.oneCell' = true := by intro u hu; simp at hu; subst hu; rfl
theorem executed_n (A : Option Addr) (n c B mY : Nat) (d : List Int) (cm : Cmd) (w : World) (h : Sees w B 1 A n c (ints d)) (hB : B ≤ w.heap.size) (hc : cval cm n = true) (hX : (xdisk d cm).length = n) (hY : (xread d cm).length = mY) :
    Calls Try.prog 51 #[.slice A n c, cmdV cm] w (RetPairN w (xdisk d cm) (xread d cm) n mY) := by
  obtain rfl := h.int
  exact (executed_any A c B d cm w h hB hc).mono fun _ _ hp => hp.n hX hY
theorem execCmd_n (A : Option Addr) (n c B mY : Nat) (d : List Int) (cm : Cmd) (w : World) (h : Sees w B 1 A n c (ints d)) (hB : B ≤ w.heap.size) (hd : dval d = true) (hc : cval cm n = true) (hX : (xdisk d cm).length = n) (hY : (xread d cm).length = mY) :
    Calls Try.prog 47 #[.slice A n c, cmdV cm] w (RetPairN w (xdisk d cm) (xread d cm) n mY) := by
  obtain rfl := h.int
  have hq := specExecuteCommand_any A d.length c B d cm w h hB
  rw [exD_of hd hc, exR_of hd hc] at hq
  exact hq.mono fun _ _ hp => hp.n hX hY
end Go.Proofs.Ythnebfcclkebeaa
