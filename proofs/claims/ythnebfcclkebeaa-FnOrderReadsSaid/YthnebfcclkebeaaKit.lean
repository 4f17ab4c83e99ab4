/-
  Words for memory that the walks of this seat share: a slice that is read, a slice that the call owns, a frame that lets one span of blocks change. No function of the program in sight.
-/
import Derived.WalkKit
import Derived.WalkSpells
import Derived.BigQuiet
import Derived.Deep.QuietTactic
import Derived.Deep.Draws
import Derived.Deep.DeepMust
import Derived.Deep.DeepFit
import Derived.Lib.Hide
import Derived.Laws.BitsLemmas
import Derived.Laws.BitsAllLaws
import Derived.Laws.CopyOwn
namespace Go.Proofs.Ythnebfcclkebeaa
open Go.RowKit

def ints (l : List Int) : List Value := l.map fun n => Value.int .i64 n
def bools (l : List Bool) : List Value := l.map fun b => Value.bool b
theorem ints_length (l : List Int) : (ints l).length = l.length := by simp [ints]
theorem ints_get (l : List Int) (k : Nat) (h : k < l.length) : (ints l)[k]? = some (.int .i64 l[k]) := by simp [ints, h]
theorem ints_one (l : List Int) : ∀ u ∈ ints l, u.oneCell' = true := by
  intro u hu; obtain ⟨n, _, rfl⟩ := List.mem_map.1 hu; rfl
theorem one_int (v : Int) : ∀ u ∈ [Value.int .i64 v], u.oneCell' = true := by intro u hu; simp at hu; subst hu; rfl
theorem bools_one (l : List Bool) : ∀ u ∈ bools l, u.oneCell' = true := by
  intro u hu; obtain ⟨n, _, rfl⟩ := List.mem_map.1 hu; rfl

/-- The slice `.slice A n c` reads as the cells xs, s of them an element; what it reads lies below block B. -/
structure Sees (w : World) (B s : Nat) (A : Option Addr) (n c : Nat) (xs : List Value) : Prop where
  len : xs.length = n * s
  cap : n ≤ c
  big : c ≤ 9223372036854775807
  at_ : 0 < n → ∃ b o, A = some ⟨b, o, none⟩ ∧ b < B ∧ ∀ j u, xs[j]? = some u → w.cell? ⟨b, o + j, none⟩ = some u

section
variable {w w' : World} {B B' s n c : Nat} {A : Option Addr} {xs : List Value}
theorem Sees.none_ (w : World) (B s c : Nat) (h : c ≤ 9223372036854775807) (A : Option Addr) : Sees w B s A 0 c [] := ⟨by simp, by omega, h, fun h => absurd h (by omega)⟩
theorem Sees.keep (h : Sees w B s A n c xs) (hk : ∀ p : Addr, p.block < B → w'.cell? p = w.cell? p) : Sees w' B s A n c xs :=
  ⟨h.len, h.cap, h.big, fun hn => by
    obtain ⟨b, o, e, hb, hc⟩ := h.at_ hn
    exact ⟨b, o, e, hb, fun j u hu => (hk ⟨b, o + j, none⟩ hb).trans (hc j u hu)⟩⟩
theorem Sees.more (h : Sees w B s A n c xs) (hB : B ≤ B') : Sees w B' s A n c xs :=
  ⟨h.len, h.cap, h.big, fun hn => by
    obtain ⟨b, o, e, hb, hc⟩ := h.at_ hn
    exact ⟨b, o, e, by omega, hc⟩⟩
theorem Sees.below {D : Nat} (h : Sees w B s A n c xs) (hb : Below D w w') (hD : B ≤ D) : Sees w' B s A n c xs := h.keep fun _ hp => hb.cell (by omega)
end
theorem Sees.drewN {w : World} {B s n c : Nat} {A : Option Addr} {xs : List Value} (h : Sees w B s A n c xs) (q : Nat) : Sees (w.drewN q) B s A n c xs := h.keep fun _ _ => rfl
theorem Sees.int {w : World} {B n c : Nat} {A : Option Addr} {d : List Int} (h : Sees w B 1 A n c (ints d)) : d.length = n := by
  have := h.len; rw [ints_length] at this; omega
/-- the address behind a slice of at least one element, and the cell of element k -/
theorem Sees.int_at {w : World} {B n c : Nat} {A : Option Addr} {d : List Int} (h : Sees w B 1 A n c (ints d)) (hn : 0 < n) :
    ∃ b o, A = some ⟨b, o, none⟩ ∧ b < B ∧ ∀ k (hk : k < d.length), w.cell? ⟨b, o + k, none⟩ = some (.int .i64 d[k]) := by
  obtain ⟨b, o, e, hb, hc⟩ := h.at_ hn
  exact ⟨b, o, e, hb, fun k hk => hc k _ (ints_get d k hk)⟩
/-- A slice cut at both ends: the address keeps the model's own spelling. -/
theorem Sees.cut {w : World} {B s n c : Nat} {A : Option Addr} {xs : List Value} (h : Sees w B s A n c xs) {i j : Nat} (hi : i ≤ j) (hj : j ≤ n) (A' : Option Addr)
    (hA : i < j → ∀ b o, A = some ⟨b, o, none⟩ → A' = some ⟨b, o + i * s, none⟩) : Sees w B s A' (j - i) (c - i) ((xs.take (j * s)).drop (i * s)) := by
  have hl := h.len
  have hm : j * s ≤ n * s := Nat.mul_le_mul_right s hj
  refine ⟨by rw [List.length_drop, List.length_take, hl, Nat.min_eq_left hm, Nat.sub_mul], by have := h.cap; omega, by have := h.big; omega, fun hn => ?_⟩
  obtain ⟨b, o, e, hb, hc⟩ := h.at_ (by omega)
  refine ⟨b, o + i * s, hA (by omega) b o e, hb, fun k u hu => ?_⟩
  rw [List.getElem?_drop, List.getElem?_take] at hu
  split at hu
  · rw [Nat.add_assoc]; exact hc _ u hu
  · cases hu

/-- A slice of the call's own: the cells xs at the head of a block from lo on and below hi, none of them frozen; or nil. -/
structure Own (w : World) (lo hi : Nat) (e : TypeId) (s : Nat) (A : Option Addr) (n c : Nat) (xs : List Value) : Prop where
  len : xs.length = n * s
  cap : n ≤ c
  big : c ≤ 9223372036854775807
  at_ : (A = none ∧ n = 0 ∧ c = 0) ∨ ∃ g cur, A = some ⟨g, 0, none⟩ ∧ lo ≤ g ∧ g < hi ∧ w.heap[g]? = some (.cells cur e (0, 0)) ∧ cur.size = c * s ∧ cur.toList.take (n * s) = xs

/-- w' is w with new blocks, and with changes in the blocks from lo on and below hi alone. -/
structure Fr (lo hi : Nat) (w w' : World) : Prop where
  os : w'.os = w.os
  tape : w'.tape = w.tape
  output : w'.output = w.output
  size : w.heap.size ≤ w'.heap.size
  block : ∀ k, k < w.heap.size → (k < lo ∨ hi ≤ k) → w'.heap[k]? = w.heap[k]?

theorem below_drewN {D : Nat} {w w' : World} (h : Below D w w') (q : Nat) : Below D w (w'.drewN q) := ⟨h.os, h.tape, h.output, h.size, h.block⟩
theorem below_later {D : Nat} {a w w' : World} (h : Below D a w) (k : Below w.heap.size w w') (hD : D ≤ a.heap.size) : Below D a w' := h.trans (k.mono (by have := h.size; omega))
theorem le_alloc {lo : Nat} (w : World) (o : Obj) (h : lo ≤ w.heap.size) : lo ≤ (w.alloc o).heap.size := by rw [World.size_alloc]; omega
theorem below_new (w : World) (o : Obj) : Below w.heap.size w (w.alloc o) := (Below.refl _ _).alloc (Nat.le_refl _) o
theorem Fr.refl (lo hi : Nat) (w : World) : Fr lo hi w w := ⟨rfl, rfl, rfl, Nat.le_refl _, fun _ _ _ => rfl⟩
theorem Fr.trans {lo hi : Nat} {a b c : World} (h : Fr lo hi a b) (k : Fr lo hi b c) : Fr lo hi a c :=
  ⟨k.os.trans h.os, k.tape.trans h.tape, k.output.trans h.output, Nat.le_trans h.size k.size, fun i hi' hh => (k.block i (Nat.lt_of_lt_of_le hi' h.size) hh).trans (h.block i hi' hh)⟩
theorem Fr.wide {lo hi lo' hi' : Nat} {w w' : World} (h : Fr lo hi w w') (h1 : lo' ≤ lo) (h2 : hi ≤ hi') : Fr lo' hi' w w' :=
  ⟨h.os, h.tape, h.output, h.size, fun k hk hh => h.block k hk (by omega)⟩
theorem Fr.of_below {w w' : World} (h : Below w.heap.size w w') (lo hi : Nat) : Fr lo hi w w' := ⟨h.os, h.tape, h.output, h.size, fun k hk _ => h.block k hk⟩
theorem Fr.below {lo hi D : Nat} {a w w' : World} (h : Below D a w) (k : Fr lo hi w w') (h1 : D ≤ lo) (hD : D ≤ a.heap.size) : Below D a w' :=
  h.trans ⟨k.os, k.tape, k.output, k.size, fun i hi' => k.block i (by have := h.size; omega) (.inl (by omega))⟩
theorem Fr.drewN {lo hi : Nat} {w w' : World} (h : Fr lo hi w w') (q : Nat) : Fr lo hi w (w'.drewN q) := ⟨h.os, h.tape, h.output, h.size, h.block⟩
theorem Fr.cell {lo hi : Nat} {w w' : World} (h : Fr lo hi w w') {p : Addr} (hp : p.block < w.heap.size) (hh : p.block < lo ∨ hi ≤ p.block) : w'.cell? p = w.cell? p := World.cell?_of_block (h.block _ hp hh)

theorem Sees.fr {w w' : World} {B s n c lo hi : Nat} {A : Option Addr} {xs : List Value} (h : Sees w B s A n c xs) (hf : Fr lo hi w w') (h1 : B ≤ lo) (h2 : B ≤ w.heap.size) : Sees w' B s A n c xs :=
  h.keep fun q hq => hf.cell (by omega) (.inl (by omega))
theorem Fr.size_alloc {lo hi : Nat} {w w' : World} {o : Obj} (h : Fr lo hi (w.alloc o) w') : w.heap.size ≤ w'.heap.size := by have := h.size; rw [World.size_alloc] at this; omega
theorem Fr.rule {lo hi : Nat} {w w' : World} (h : Fr lo hi w w') : ∀ b i, b < w.heap.size → hi ≤ b → w'.cell? ⟨b, i, none⟩ = w.cell? ⟨b, i, none⟩ := fun b i h1 h2 => h.cell (p := ⟨b, i, none⟩) h1 (.inr h2)

section
variable {w w' : World} {lo hi s n c : Nat} {e : TypeId} {A : Option Addr} {xs : List Value}
theorem Own.keep (h : Own w lo hi e s A n c xs) (hk : ∀ g, lo ≤ g → g < hi → g < w.heap.size → w'.heap[g]? = w.heap[g]?) : Own w' lo hi e s A n c xs :=
  ⟨h.len, h.cap, h.big, by
    rcases h.at_ with h | ⟨g, cur, h1, h2, h3, h4, h5⟩
    · exact .inl h
    · exact .inr ⟨g, cur, h1, h2, h3, by rw [hk g h2 h3 (Array.getElem?_eq_some_iff.1 h4).1]; exact h4, h5⟩⟩
theorem Own.below (h : Own w lo hi e s A n c xs) (hb : Below w.heap.size w w') : Own w' lo hi e s A n c xs := h.keep fun g _ _ hg => hb.block g hg
theorem Own.fr {lo' hi' : Nat} (h : Own w lo hi e s A n c xs) (hf : Fr lo' hi' w w') (hd : hi ≤ lo' ∨ hi' ≤ lo) : Own w' lo hi e s A n c xs := h.keep fun g _ _ hg => hf.block g hg (by omega)
theorem Own.wide {lo' hi' : Nat} (h : Own w lo hi e s A n c xs) (h1 : lo' ≤ lo) (h2 : hi ≤ hi') : Own w lo' hi' e s A n c xs :=
  ⟨h.len, h.cap, h.big, by
    rcases h.at_ with h | ⟨g, cur, h3, h4, h5, h6⟩
    · exact .inl h
    · exact .inr ⟨g, cur, h3, by omega, by omega, h6⟩⟩
theorem Own.sees (h : Own w lo hi e s A n c xs) : Sees w hi s A n c xs :=
  ⟨h.len, h.cap, h.big, fun hn => by
    rcases h.at_ with ⟨_, h, _⟩ | ⟨g, cur, h1, _, h3, h4, _, h6⟩
    · omega
    · refine ⟨g, 0, h1, h3, fun j u hu => ?_⟩
      rw [cell_of_row w g (0 + j) cur e (0, 0) h4, Nat.zero_add]
      rw [← h6, List.getElem?_take] at hu
      split at hu
      · simpa using hu
      · cases hu⟩
theorem Own.row (h : Own w lo hi e s A n c xs) : w.ownsRow lo e s (.slice A n c) n xs :=
  ⟨h.len, by
    rcases h.at_ with ⟨rfl, rfl, rfl⟩ | ⟨g, cur, h1, h2, _, h4, h5, h6⟩
    · exact .inl ⟨rfl, rfl⟩
    · exact .inr ⟨g, c, cur, by rw [h1], h2, h4, h.cap, h.big, h5, h6⟩⟩
theorem Own.of_row {v : Value} (h : w.ownsRow lo e s v n xs) : ∃ A c, v = .slice A n c ∧ Own w lo w.heap.size e s A n c xs := by
  rcases h.2 with ⟨rfl, rfl⟩ | ⟨g, cap, cur, rfl, h2, h3, h4, h5, h6, h7⟩
  · exact ⟨none, 0, rfl, h.1, Nat.le_refl _, by omega, .inl ⟨rfl, rfl, rfl⟩⟩
  · exact ⟨_, cap, rfl, h.1, h4, h5, .inr ⟨g, cur, rfl, h2, (Array.getElem?_eq_some_iff.1 h3).1, h3, h6, h7⟩⟩
theorem Own.nil (w : World) (lo hi : Nat) (e : TypeId) (s : Nat) : Own w lo hi e s none 0 0 [] := ⟨by simp, Nat.le_refl _, by omega, .inl ⟨rfl, rfl, rfl⟩⟩
/-- a block that the call has just laid -/
theorem Own.made {cur : Array Value} (hc : c * s = cur.size) (hn : n ≤ c) (hb : c ≤ 9223372036854775807) (hx : cur.toList.take (n * s) = xs) (hlo : lo ≤ w.heap.size) (hhi : w.heap.size < hi) :
    Own (w.alloc (.cells cur e)) lo hi e s (some ⟨w.heap.size, 0, none⟩) n c xs :=
  ⟨by rw [← hx, List.length_take, Array.length_toList, ← hc]; exact Nat.min_eq_left (Nat.mul_le_mul_right s hn), hn, hb, .inr ⟨w.heap.size, cur, rfl, hlo, hhi, heap_alloc_new w _, hc.symm, hx⟩⟩
/-- a store into the call's own slice -/
theorem Own.set (h : Own w lo hi e s A n c xs) {g : Nat} (hA : A = some ⟨g, 0, none⟩) (j : Nat) (u : Value) : Own (w.setCell ⟨g, j, none⟩ u) lo hi e s A n c (xs.set j u) := by
  subst hA
  rcases h.at_ with ⟨h, _⟩ | ⟨g', cur, h1, h2, h3, h4, h5, h6⟩
  · cases h
  · injection h1 with h1
    injection h1 with h1
    subst h1
    refine ⟨by rw [List.length_set]; exact h.len, h.cap, h.big, .inr ⟨g, cur.setIfInBounds j u, rfl, h2, h3, heap_setCell_same w g j cur e u h4, by simpa using h5, ?_⟩⟩
    rw [Array.toList_setIfInBounds, ← h6, List.take_set]
theorem Own.drew {w : World} {lo hi s n c : Nat} {e : TypeId} {A : Option Addr} {xs : List Value} (h : Own w lo hi e s A n c xs) : Own w.drew lo hi e s A n c xs := h.keep fun _ _ _ _ => rfl
theorem Own.frozen (h : Own w lo hi e s A n c xs) {g : Nat} (hA : A = some ⟨g, 0, none⟩) (j : Nat) : w.frozen? ⟨g, j, none⟩ = false := by
  subst hA
  rcases h.at_ with ⟨h, _⟩ | ⟨g', cur, h1, h2, h3, h4, h5, h6⟩
  · cases h
  · injection h1 with h1
    injection h1 with h1
    subst h1
    exact frozen_of_row w g j cur e h4
theorem Own.cell (h : Own w lo hi e s A n c xs) {g : Nat} (hA : A = some ⟨g, 0, none⟩) (j : Nat) (u : Value) (hu : xs[j]? = some u) : w.cell? ⟨g, j, none⟩ = some u := by
  subst hA
  rcases h.at_ with ⟨h, _⟩ | ⟨g', cur, h1, h2, h3, h4, h5, h6⟩
  · cases h
  · injection h1 with h1
    injection h1 with h1
    subst h1
    rw [cell_of_row w g j cur e (0, 0) h4]
    rw [← h6, List.getElem?_take] at hu
    split at hu
    · simpa using hu
    · cases hu
theorem Own.head (h : Own w lo hi e s A n c xs) (hn : 0 < n) : ∃ g, A = some ⟨g, 0, none⟩ ∧ lo ≤ g ∧ g < hi ∧ g < w.heap.size := by
  rcases h.at_ with ⟨_, h, _⟩ | ⟨g, cur, h1, h2, h3, h4, _⟩
  · omega
  · exact ⟨g, h1, h2, h3, (Array.getElem?_eq_some_iff.1 h4).1⟩
theorem Fr.set {lo hi : Nat} {w w' : World} (h : Fr lo hi w w') {g : Nat} (h1 : lo ≤ g) (h2 : g < hi) (j : Nat) (u : Value) : Fr lo hi w (w'.setCell ⟨g, j, none⟩ u) :=
  ⟨h.os, h.tape, h.output, by rw [World.size_setCell]; exact h.size, fun k hk hh => (heap_setCell_other w' ⟨g, j, none⟩ k u (by show k ≠ g; omega)).trans (h.block k hk hh)⟩
theorem Fr.alloc {lo hi : Nat} {w w' : World} (h : Fr lo hi w w') (o : Obj) : Fr lo hi w (w'.alloc o) :=
  ⟨h.os, h.tape, h.output, by rw [World.size_alloc]; have := h.size; omega, fun k hk hh => (Below.heap_alloc w' o k (by have := h.size; omega)).trans (h.block k hk hh)⟩
theorem Fr.grown {lo hi : Nat} {w w' w'' : World} {row : Option Nat} (h : Fr lo hi w w') (k : w'.grownBy w'' row) (hr : ∀ g, row = some g → (lo ≤ g ∧ g < hi) ∨ w.heap.size ≤ g) : Fr lo hi w w'' :=
  ⟨k.os.trans h.os, k.tape.trans h.tape, k.output.trans h.output, Nat.le_trans h.size k.size, fun i hi' hh => (k.block i (by have := h.size; omega) (fun e => by have := hr i e.symm; omega)).trans (h.block i hi' hh)⟩
end

section
variable {P : Program}
theorem ownBlock_of {A : Option Addr} {n c k : Nat} (h : (Value.slice A n c).ownBlock = some k) : ∃ a, A = some a ∧ a.block = k := by
  cases A with
  | none => simp [Value.ownBlock] at h
  | some a => exact ⟨a, rfl, by simpa [Value.ownBlock] using h⟩
end
theorem add_addr (b o j : Nat) : (⟨b, o, none⟩ : Addr).add j = ⟨b, o + j, none⟩ := by unfold Addr.add; split <;> simp_all
section
variable {P : Program}
/-- append onto a slice of the call's own, from whatever slice -/
theorem wp_app (w : World) {o : Oper} {a : Act} {K : Act → World → Prop} {Q : Exit → Act → World → Prop} (x y : Operand) (t : TypeId)
    (ho : o.op = .call { callee := .builtin .append, args := #[x, y], argTypes := #[t, t] })
    (e : TypeId) (i : TypeInfo) (z : Value) (size bytes : Nat) (ht : P.underlying t = some (.slice e)) (hi : P.info? e = some i) (hz : i.zero = some z)
    (hsize : i.size = size) (hby : i.bytes = bytes) (hzs : z.cells.size = size) (hsz : 0 < size)
    (lo hi' : Nat) (A : Option Addr) (n c : Nat) (xs : List Value) (hs : a.eval x = .slice A n c) (hown : Own w lo hi' e size A n c xs)
    (B : Nat) (A' : Option Addr) (m c' : Nat) (news : List Value) (hx : a.eval y = .slice A' m c') (hsee : Sees w B size A' m c' news) (h1 : ∀ u ∈ news, u.oneCell' = true)
    (hbytes : (n + m) * bytes ≤ 140737488355328) (h63 : n + m ≤ 140737488355328) (hlo : lo ≤ w.heap.size)
    (h : ∀ A2 c2 w', Own w' lo w'.heap.size e size A2 (n + m) c2 (xs ++ news) → Fr lo hi' w w' → K (a.put o.dst (.slice A2 (n + m) c2)) w') : o.wp P a w K Q := by
  cases A' with
  | none =>
    have hm : m = 0 := by
      rcases Nat.eq_zero_or_pos m with h0 | h0
      · exact h0
      · obtain ⟨b, o, e, _⟩ := hsee.at_ h0; cases e
    subst hm
    have hn : news = [] := List.eq_nil_of_length_eq_zero (by have := hsee.len; omega)
    subst hn
    have hrun : (Builtin.append_ #[t, t] o.type #[.slice A n c, .slice none 0 c']).run P w = .ok (.slice A n c) w := by
      rcases hown.at_ with ⟨rfl, rfl, rfl⟩ | ⟨g, cur, rfl, _⟩
      · simp [Builtin.append_, run_underlying ht, sizeOf, typeInfo, hi, Builtin.lenOf, Builtin.firstCells]
      · simp [Builtin.append_, run_underlying ht, sizeOf, typeInfo, hi, Builtin.lenOf, Builtin.firstCells, hown.cap, storeCells]
    unfold Oper.wp execOp
    simp only [ho, resolve, invoke, builtin, Sem.run_bind, Sem.run_pure, Result.andThen_ok, List.map_toArray, List.map_cons, List.map_nil, hs, hx, hrun]
    have hown' : Own w lo w.heap.size e size A n c xs := by
      refine ⟨hown.len, hown.cap, hown.big, ?_⟩
      rcases hown.at_ with h | ⟨g, cur, h1, h2, _, h4, h5⟩
      · exact .inl h
      · exact .inr ⟨g, cur, h1, h2, (Array.getElem?_eq_some_iff.1 h4).1, h4, h5⟩
    exact h A c w (by simpa using hown') (Fr.refl _ _ _)
  | some ad =>
    have hnews : ∀ j u, news[j]? = some u → w.cell? (ad.add j) = some u := by
      intro j u hu
      rcases Nat.eq_zero_or_pos m with h0 | h0
      · subst h0
        have hx : news = [] := List.eq_nil_of_length_eq_zero (by have := hsee.len; omega)
        subst hx
        simp at hu
      · obtain ⟨b, o, e, _, hc⟩ := hsee.at_ h0
        injection e with e
        subst e
        rw [add_addr]
        exact hc j u hu
    exact wp_append_own w x y t ho lo e i z size bytes ht hi hz hsize hby hzs hsz _ n xs hs hown.row ad m c' news hx hsee.len hnews h1 (by unfold maxLen; omega) hbytes hlo fun v' w' h2 h3 _ => by
      obtain ⟨A2, c2, rfl, h4⟩ := Own.of_row h2
      refine h A2 c2 w' h4 ⟨h3.os, h3.tape, h3.output, h3.size, fun k hk hh => h3.block k hk (fun he => ?_)⟩
      obtain ⟨q, hq, hk'⟩ := ownBlock_of he.symm
      rcases hown.at_ with ⟨hA, _⟩ | ⟨g, cur, hA, hg1, hg2, _⟩
      · rw [hA] at hq; cases hq
      · rw [hA] at hq; injection hq with hq; rw [← hq] at hk'; simp at hk'; omega
theorem wpList_app (w : World) {ops : Array Oper} {rest : List Oper} {o : Oper} {a : Act} {Q : Exit → Act → World → Prop} (hw : Region.wanted o (yielded ops a.tmps) = true) (x y : Operand) (t : TypeId)
    (ho : o.op = .call { callee := .builtin .append, args := #[x, y], argTypes := #[t, t] })
    (e : TypeId) (i : TypeInfo) (z : Value) (size bytes : Nat) (ht : P.underlying t = some (.slice e)) (hi : P.info? e = some i) (hz : i.zero = some z)
    (hsize : i.size = size) (hby : i.bytes = bytes) (hzs : z.cells.size = size) (hsz : 0 < size)
    (lo hi' : Nat) (A : Option Addr) (n c : Nat) (xs : List Value) (hs : a.eval x = .slice A n c) (hown : Own w lo hi' e size A n c xs)
    (B : Nat) (A' : Option Addr) (m c' : Nat) (news : List Value) (hx : a.eval y = .slice A' m c') (hsee : Sees w B size A' m c' news) (h1 : ∀ u ∈ news, u.oneCell' = true)
    (hbytes : (n + m) * bytes ≤ 140737488355328) (h63 : n + m ≤ 140737488355328) (hlo : lo ≤ w.heap.size)
    (h : ∀ A2 c2 w', Own w' lo w'.heap.size e size A2 (n + m) c2 (xs ++ news) → Fr lo hi' w w' → wpList P ops Q rest (a.put o.dst (.slice A2 (n + m) c2)) w') : wpList P ops Q (o :: rest) a w :=
  wpList_step fun _ hK => by
    rw [if_pos hw]
    exact wp_app w x y t ho e i z size bytes ht hi hz hsize hby hzs hsz lo hi' A n c xs hs hown B A' m c' news hx hsee h1 hbytes h63 hlo fun A2 c2 w' h2 h3 => hK _ _ (h A2 c2 w' h2 h3)
end
/-- a slice cut, in the model's own spelling of the address -/
theorem Sees.sub {w : World} {B s n c : Nat} {A : Option Addr} {xs : List Value} (h : Sees w B s A n c xs) (i m : Nat) (him : i + m ≤ n) :
    Sees w B s (Option.map (fun x => x.add (i * s)) A) m (c - i) ((xs.drop (i * s)).take (m * s)) := by
  have hl := h.len
  have h1 : (i + m) * s ≤ n * s := Nat.mul_le_mul_right s him
  rw [Nat.add_mul] at h1
  refine ⟨by rw [List.length_take, List.length_drop, hl]; omega, by have := h.cap; omega, by have := h.big; omega, fun hm => ?_⟩
  obtain ⟨b, o, rfl, hb, hc⟩ := h.at_ (by omega)
  refine ⟨b, o + i * s, by simp [add_addr], hb, fun k u hu => ?_⟩
  rw [List.getElem?_take] at hu
  split at hu
  · rw [List.getElem?_drop] at hu
    rw [Nat.add_assoc]; exact hc _ u hu
  · cases hu
theorem Sees.pre {w : World} {B s n c : Nat} {A : Option Addr} {xs : List Value} (h : Sees w B s A n c xs) (m : Nat) (hm : m ≤ n) : Sees w B s A m c (xs.take (m * s)) := by
  have hl := h.len
  have h1 : m * s ≤ n * s := Nat.mul_le_mul_right s hm
  refine ⟨by rw [List.length_take]; omega, by have := h.cap; omega, h.big, fun h0 => ?_⟩
  obtain ⟨b, o, e, hb, hc⟩ := h.at_ (by omega)
  refine ⟨b, o, e, hb, fun j u hu => ?_⟩
  rw [List.getElem?_take] at hu
  split at hu
  · exact hc j u hu
  · cases hu
theorem Sees.one (w : World) (e : TypeId) (v : Value) : Sees (w.alloc (.cells #[v] e)) (w.heap.size + 1) 1 (some ⟨w.heap.size, 0, none⟩) 1 1 [v] :=
  ⟨rfl, Nat.le_refl _, by omega, fun _ => ⟨w.heap.size, 0, rfl, by omega, fun j u hu => by
    match j, hu with
    | 0, hu => simp at hu; subst hu; simp⟩⟩
theorem ints_set (d : List Int) (j : Nat) (u : Int) : (ints d).set j (.int .i64 u) = ints (d.set j u) := by simp [ints, List.map_set]
theorem ints_splice (d vs : List Int) (p m : Nat) : (ints d).take p ++ (ints vs ++ (ints d).drop (p + m)) = ints (d.take p ++ (vs ++ d.drop (p + m))) := by simp [ints, List.map_drop, List.map_take]
theorem ints_sub (d : List Int) (i m : Nat) : ((ints d).drop (i * 1)).take (m * 1) = ints ((d.drop i).take m) := by simp [ints, List.map_drop, List.map_take]
theorem Sees.tail {w : World} {B n c : Nat} {A : Option Addr} {d : List Int} (h : Sees w B 1 A n c (ints d)) (i : Nat) (hi : i ≤ n) (A' : Option Addr) (hA : c ≠ i → A' = Option.map (fun x => x.add i) A) : Sees w B 1 A' (n - i) (c - i) (ints (d.drop i)) := by
  have hl := h.int
  have hc := h.cap
  have hb := h.big
  by_cases hci : c = i
  · have hn : n - i = 0 := by omega
    rw [hn, show d.drop i = [] from List.drop_eq_nil_of_le (by omega)]
    exact Sees.none_ _ _ _ _ (by omega) _
  · have hs := h.sub i (n - i) (by omega)
    rw [ints_sub, Nat.mul_one, List.take_of_length_le (by rw [List.length_drop]; omega)] at hs
    rw [hA hci]
    exact hs
theorem Sees.init {w : World} {B n c : Nat} {A : Option Addr} {d : List Int} (h : Sees w B 1 A n c (ints d)) (i : Nat) (hi : i ≤ n) : Sees w B 1 A i c (ints (d.take i)) := by
  have hs := h.pre i hi
  rwa [show (ints d).take (i * 1) = ints (d.take i) by simp [ints, List.map_take]] at hs
theorem Own.setRow {w : World} {lo hi e n c g : Nat} {xs : List Value} {cur : Array Value} (h : Own w lo hi e 1 (some ⟨g, 0, none⟩) n c xs) (hg : w.heap[g]? = some (.cells cur e (0, 0))) (off : Nat) (ys : List Value) (hoff : off + ys.length ≤ n) :
    Own (w.setRow g (cur.toList.take off ++ (ys ++ cur.toList.drop (off + ys.length))).toArray) lo hi e 1 (some ⟨g, 0, none⟩) n c (xs.take off ++ (ys ++ xs.drop (off + ys.length))) := by
  rcases h.at_ with ⟨h, _⟩ | ⟨g', cur', h1, h2, h3, h4, h5, h6⟩
  · cases h
  · injection h1 with h1
    injection h1 with h1
    subst h1
    rw [hg] at h4
    injection h4 with h4
    injection h4 with h4
    subst h4
    have hl := h.len
    have hc := h.cap
    have hcl : cur.toList.length = c := by rw [Array.length_toList, h5, Nat.mul_one]
    refine ⟨by simp only [List.length_append, List.length_take, List.length_drop]; omega, h.cap, h.big, .inr ⟨g, _, rfl, h2, h3, setRow_heap w g cur _ e _ hg, by simp only [List.size_toArray, List.length_append, List.length_take, List.length_drop, hcl]; omega, ?_⟩⟩
    rw [← h6, Nat.mul_one]
    show List.take n (cur.toList.take off ++ (ys ++ cur.toList.drop (off + ys.length))) = _
    have e1 : (cur.toList.take off).length = off := by rw [List.length_take]; omega
    rw [List.take_take, Nat.min_eq_left (by omega), List.take_append, e1, List.take_of_length_le (by omega), List.take_append, List.take_of_length_le (l := ys) (by omega), List.drop_take]
    congr 3
    omega
theorem Fr.setRow {lo hi g : Nat} {w : World} (h1 : lo ≤ g) (h2 : g < hi) (cs : Array Value) : Fr lo hi w (w.setRow g cs) :=
  ⟨rfl, rfl, rfl, by simp, fun k _ hh => setRow_other w g k cs (by omega)⟩
/-- copy into a slice of the call's own -/
theorem wpList_cp {P : Program} {w : World} {ops : Array Oper} {rest : List Oper} {o : Oper} {a : Act} {Q : Exit → Act → World → Prop} (hgd : o.guard = none) (x y : Operand) (t : TypeId)
    (ho : o.op = .call { callee := .builtin .copy, args := #[x, y], argTypes := #[t, t] }) (e : TypeId) (hu : P.underlying t = some (.slice e)) (hsz : (P.info? e).map (·.size) = some 1)
    (lo hi : Nat) (A : Option Addr) (n c : Nat) (xs : List Value) (hown : Own w lo hi e 1 A n c xs) (off : Nat) (dp : Option Addr) (dl dc : Nat) (hd : a.eval x = .slice dp dl dc)
    (B : Nat) (A' : Option Addr) (m c' : Nat) (ys : List Value) (hs : a.eval y = .slice A' m c') (hsee : Sees w B 1 A' m c' ys) (h1 : ∀ u ∈ ys, u.oneCell' = true) (hm : m ≤ dl) (hoff : off + m ≤ n)
    (hdp : ∀ g, A = some ⟨g, 0, none⟩ → 0 < m → dp = some ⟨g, off, none⟩)
    (h : ∀ w', Own w' lo hi e 1 A n c (xs.take off ++ (ys ++ xs.drop (off + m))) → Fr lo hi w w' → wpList P ops Q rest (a.put o.dst (goInt m)) w') : wpList P ops Q (o :: rest) a w := by
  have hyl : ys.length = m := by have := hsee.len; omega
  rcases Nat.eq_zero_or_pos m with h0 | h0
  · subst h0
    obtain rfl : ys = [] := List.eq_nil_of_length_eq_zero hyl
    refine wpList_copy_nothing hgd x y t t ho e hu hsz dp A' dl dc 0 c' hd hs (by simp) ?_
    exact h w (by simpa using hown) (Fr.refl _ _ _)
  · obtain ⟨g, rfl, hg1, hg2, _⟩ := hown.head (by omega)
    obtain ⟨b, o', rfl, _, hc⟩ := hsee.at_ h0
    obtain rfl := hdp g rfl h0
    rcases hown.at_ with ⟨hA, _⟩ | ⟨g', cur, hA, _, _, h4, h5, h6⟩
    · cases hA
    · injection hA with hA
      injection hA with hA
      subst hA
      have hcap := hown.cap
      refine wpList_copy_own hgd x y t t ho e hu hsz g off dl dc ⟨b, o', none⟩ m c' hd hs cur e h4 ys (by rw [hyl]; exact (Nat.min_eq_left hm).symm) (fun j v hv => by rw [add_addr]; exact hc j v hv) (by rw [hyl, h5]; omega) h1 ?_
      rw [hyl]
      have hr := hown.setRow h4 off ys (by omega)
      rw [hyl] at hr
      exact h _ hr (Fr.setRow hg1 hg2 _)
/-- A call's end: a new slice of n elements with the cells xs; nothing that was there has changed. -/
def RetFresh (w : World) (e : TypeId) (s n : Nat) (xs : List Value) (en : Ending) (w' : World) : Prop :=
  ∃ A c, en = .returned (.slice A n c) ∧ Own w' w.heap.size w'.heap.size e s A n c xs ∧ Below w.heap.size w w'
/-- A call's end: a plain value; nothing that was there has changed. -/
def RetPure (w : World) (v : Value) (en : Ending) (w' : World) : Prop := en = .returned v ∧ Below w.heap.size w w'
def upfrom (k : Int) (n : Nat) : List Int := (List.range n).map fun (i : Nat) => k + i
theorem upfrom_length (k : Int) (n : Nat) : (upfrom k n).length = n := by simp [upfrom]
theorem upfrom_get (k : Int) (n i : Nat) (h : i < (upfrom k n).length) : (upfrom k n)[i] = k + i := by simp [upfrom]
theorem set_take (l : List Value) (k : Nat) (u : Value) (h : k < l.length) : (l.set k u).take (k + 1) = l.take k ++ [u] := by
  rw [List.take_succ_eq_append_getElem (by simpa using h), List.getElem_set_self, List.take_set_of_le (Nat.le_refl k)]
theorem ints_take (d : List Int) (k : Nat) (h : k < d.length) : ints (d.take (k + 1)) = ints (d.take k) ++ [.int .i64 d[k]] := by
  rw [List.take_succ_eq_append_getElem h]; unfold ints; rw [List.map_append]; rfl
theorem take_eq_step (x y : List Int) (k : Nat) (hx : k < x.length) (hy : k < y.length) (h : x.take k = y.take k) (he : x[k] = y[k]) : x.take (k + 1) = y.take (k + 1) := by
  rw [List.take_succ_eq_append_getElem hx, List.take_succ_eq_append_getElem hy, h, he]
theorem get_ne (x y : List Int) (k : Nat) (hx : k < x.length) (hy : k < y.length) (he : x[k] ≠ y[k]) : false = decide (x = y) := by
  rw [eq_comm, decide_eq_false_iff_not]; rintro rfl; exact he rfl
theorem take_eq_end (x y : List Int) (k : Nat) (hx : x.length ≤ k) (hy : y.length ≤ k) (h : x.take k = y.take k) : true = decide (x = y) := by
  rw [List.take_of_length_le hx, List.take_of_length_le hy] at h; rw [eq_comm, decide_eq_true_iff]; exact h
/-- the first k of vs laid over d from place p on -/
def spl {α : Type} (d vs : List α) (p k : Nat) : List α := d.take p ++ (vs.take k ++ d.drop (p + k))
theorem spl_zero {α : Type} (d vs : List α) (p : Nat) : spl d vs p 0 = d := by simp [spl]
theorem spl_length {α : Type} (d vs : List α) (p k : Nat) (h : p + k ≤ d.length) (hk : k ≤ vs.length) : (spl d vs p k).length = d.length := by
  simp only [spl, List.length_append, List.length_take, List.length_drop]; omega
theorem spl_step {α : Type} (d vs : List α) (p k : Nat) (h : p + k < d.length) (hk : k < vs.length) : (spl d vs p k).set (p + k) vs[k] = spl d vs p (k + 1) := by
  have e1 : (d.take p).length = p := by rw [List.length_take]; omega
  have e2 : (vs.take k).length = k := by rw [List.length_take]; omega
  unfold spl
  rw [List.set_append_right _ _ (by omega), e1, Nat.add_sub_cancel_left, List.set_append_right _ _ (by omega), e2, Nat.sub_self, List.drop_eq_getElem_cons h, List.set_cons_zero, List.take_succ_eq_append_getElem hk, List.append_assoc]
  rfl
theorem spl_end {α : Type} (d vs : List α) (p : Nat) : spl d vs p vs.length = d.take p ++ (vs ++ d.drop (p + vs.length)) := by unfold spl; rw [List.take_length]
end Go.Proofs.Ythnebfcclkebeaa
