/-
  Walks: the laws' helpers on rows (eqIntSS, sameRows, markIntSS, heldIntSS).
-/
import Derived.Test.YthnebfcclkebeaaM11
import Derived.Test.YthnebfcclkebeaaD3
import Derived.Deep.RegionHeld3
import Derived.Deep.DrawnRows
namespace Go.Proofs.Ythnebfcclkebeaa
open Go.RowKit
set_option linter.unusedSimpArgs false
set_option linter.unusedVariables false
attribute [local go_sem ↓] Go.wp_at_zero Go.wp_at_succ
/-- rows that are read: they lie below block B -/
def RowsSee (w : World) (B : Nat) (vs : List Value) (xs : List (List Int)) : Prop :=
  vs.length = xs.length ∧ ∀ (k : Nat) (x : List Int), xs[k]? = some x → ∃ A n c, vs[k]? = some (Value.slice A n c) ∧ Sees w B 1 A n c (ints x)
theorem RowsSee.below {w w' : World} {B D : Nat} {vs : List Value} {xs : List (List Int)} (h : RowsSee w B vs xs) (b : Below D w w') (hB : B ≤ D) : RowsSee w' B vs xs :=
  ⟨h.1, fun k x hx => by obtain ⟨A, n, c, h1, h2⟩ := h.2 k x hx; exact ⟨A, n, c, h1, h2.below b hB⟩⟩
theorem RowsSee.more {w : World} {B B' : Nat} {vs : List Value} {xs : List (List Int)} (h : RowsSee w B vs xs) (hB : B ≤ B') : RowsSee w B' vs xs :=
  ⟨h.1, fun k x hx => by obtain ⟨A, n, c, h1, h2⟩ := h.2 k x hx; exact ⟨A, n, c, h1, h2.more hB⟩⟩
theorem RowsSee.append {w : World} {B : Nat} {vs vs' : List Value} {xs xs' : List (List Int)} (h : RowsSee w B vs xs) (h' : RowsSee w B vs' xs') : RowsSee w B (vs ++ vs') (xs ++ xs') := by
  refine ⟨by rw [List.length_append, List.length_append, h.1, h'.1], fun k x hx => ?_⟩
  rcases Nat.lt_or_ge k xs.length with hk | hk
  · rw [List.getElem?_append_left hk] at hx
    obtain ⟨A, n, c, h1, h2⟩ := h.2 k x hx
    exact ⟨A, n, c, by rw [List.getElem?_append_left (by rw [h.1]; exact hk)]; exact h1, h2⟩
  · rw [List.getElem?_append_right hk] at hx
    obtain ⟨A, n, c, h1, h2⟩ := h'.2 _ x hx
    exact ⟨A, n, c, by rw [List.getElem?_append_right (by rw [h.1]; exact hk), h.1]; exact h1, h2⟩
theorem RowsSee.one {w : World} {B : Nat} {vs : List Value} {xs : List (List Int)} (h : RowsSee w B vs xs) : ∀ u ∈ vs, u.oneCell' = true := by
  intro u hu
  obtain ⟨k, hk, rfl⟩ := List.getElem_of_mem hu
  have hk2 : k < xs.length := by rw [← h.1]; exact hk
  obtain ⟨A, n, c, h1, _⟩ := h.2 k _ (List.getElem?_eq_getElem hk2)
  rw [List.getElem?_eq_getElem hk] at h1
  injection h1 with h1
  rw [h1]; rfl
theorem St.see {w wr : World} {A : Option Addr} {n c : Nat} {A' : Option Addr} {k c' : Nat} {D : List Int} {R : List (List Int)} {l m lo hi : Nat} {L H : Nat → Nat} {vs : List Value} (s : St w wr A n c A' k c' D R l m lo hi L H vs) : RowsSee wr wr.heap.size vs R :=
  ⟨s.at_.1, fun j x hx => by
    obtain ⟨A, n, c, h1, h2⟩ := s.at_.2 j x hx
    exact ⟨A, n, c, h1, h2.sees.more (s.br j (List.getElem?_eq_some_iff.1 hx).1).2.2⟩⟩
theorem St.seeO {w wr : World} {A : Option Addr} {n c : Nat} {A' : Option Addr} {k c' : Nat} {D : List Int} {R : List (List Int)} {l m lo hi : Nat} {L H : Nat → Nat} {vs : List Value} (s : St w wr A n c A' k c' D R l m lo hi L H vs) : Sees wr wr.heap.size 1 A' k c' vs := s.rows.sees.more s.bo.2.2
theorem St.seeD {w wr : World} {A : Option Addr} {n c : Nat} {A' : Option Addr} {k c' : Nat} {D : List Int} {R : List (List Int)} {l m lo hi : Nat} {L H : Nat → Nat} {vs : List Value} (s : St w wr A n c A' k c' D R l m lo hi L H vs) : Sees wr wr.heap.size 1 A n c (ints D) := s.disk.sees.more s.bd.2.2
/-- how many numbers there are in some rows -/
def tot : List (List Int) → Nat
  | [] => 0
  | x :: xs => x.length + tot xs
theorem tot_append (x y : List (List Int)) : tot (x ++ y) = tot x + tot y := by
  induction x with
  | nil => simp [tot]
  | cons a x ih => simp only [List.cons_append, tot, ih]; omega
theorem tot_step (x : List (List Int)) (k : Nat) (h : k < x.length) : tot (x.take (k + 1)) = tot (x.take k) + x[k].length := by
  rw [List.take_succ_eq_append_getElem h, tot_append]; simp [tot]
theorem tot_le (x : List (List Int)) (k : Nat) : tot (x.take k) ≤ tot x := by
  have := tot_append (x.take k) (x.drop k); rw [List.take_append_drop] at this; omega
theorem tot_bound (m : Nat) : ∀ x : List (List Int), (∀ r ∈ x, r.length ≤ m) → tot x ≤ x.length * m := by
  intro x
  induction x with
  | nil => intro _; exact Nat.zero_le _
  | cons a x ih => intro h; have h1 := h a (by simp); have h2 := ih (fun r hr => h r (by simp [hr])); simp only [tot, List.length_cons, Nat.succ_mul]; omega
/-- the rows behind the marks of the first j of them -/
def mixR (k0 : Int) (x : List (List Int)) (j : Nat) : List (List Int) := (List.range x.length).map fun k => if k < j then upfrom (k0 + tot (x.take k)) (x.getD k []).length else x.getD k []
theorem mixR_length (k0 : Int) (x : List (List Int)) (j : Nat) : (mixR k0 x j).length = x.length := by simp [mixR]
theorem mixR_zero (k0 : Int) (x : List (List Int)) : mixR k0 x 0 = x := by
  refine List.ext_getElem (by simp [mixR]) ?_
  intro i h1 h2
  simp [mixR, h2]
theorem mixR_get (k0 : Int) (x : List (List Int)) (j k : Nat) (h : k < x.length) : (mixR k0 x j)[k]? = some (if k < j then upfrom (k0 + tot (x.take k)) x[k].length else x[k]) := by
  simp [mixR, h]
theorem RowsAt.mark {w w' : World} {L H : Nat → Nat} {vs : List Value} {x : List (List Int)} {k0 : Int} {j : Nat} {A : Option Addr} {n c : Nat} (h : RowsAt w L H vs (mixR k0 x j)) (hj : j < x.length) (f : Fr (L j) (H j) w w')
    (hv : vs[j]? = some (Value.slice A n c)) (o : Own w' (L j) (H j) 3 1 A n c (ints (upfrom (k0 + tot (x.take j)) x[j].length))) (hap : ∀ i k, i < k → k < x.length → H i ≤ L k) : RowsAt w' L H vs (mixR k0 x (j + 1)) := by
  refine ⟨by rw [h.1, mixR_length, mixR_length], fun k z hz => ?_⟩
  have hk : k < x.length := by have := (List.getElem?_eq_some_iff.1 hz).1; rw [mixR_length] at this; exact this
  rw [mixR_get _ _ _ _ hk] at hz
  injection hz with hz
  subst hz
  by_cases he : k = j
  · subst he
    rw [if_pos (by omega)]
    exact ⟨A, n, c, hv, o⟩
  · obtain ⟨A2, n2, c2, h1, h2⟩ := h.2 k _ (mixR_get k0 x j k hk)
    have hc : (if k < j + 1 then upfrom (k0 + tot (x.take k)) x[k].length else x[k]) = (if k < j then upfrom (k0 + tot (x.take k)) x[k].length else x[k]) := by
      by_cases hkj : k < j
      · rw [if_pos hkj, if_pos (by omega)]
      · rw [if_neg hkj, if_neg (by omega)]
    rw [hc]
    refine ⟨A2, n2, c2, h1, h2.fr f ?_⟩
    rcases Nat.lt_or_gt_of_ne he with hlt | hgt
    · exact .inl (hap k j hlt hj)
    · exact .inr (hap j k hgt hk)
/-- w' is w with new blocks, and with changes in the rows' blocks alone -/
structure FrR (L H : Nat → Nat) (N : Nat) (w w' : World) : Prop where
  os : w'.os = w.os
  tape : w'.tape = w.tape
  output : w'.output = w.output
  size : w.heap.size ≤ w'.heap.size
  block : ∀ b, b < w.heap.size → (∀ k, k < N → b < L k ∨ H k ≤ b) → w'.heap[b]? = w.heap[b]?
theorem FrR.refl (L H : Nat → Nat) (N : Nat) (w : World) : FrR L H N w w := ⟨rfl, rfl, rfl, Nat.le_refl _, fun _ _ _ => rfl⟩
theorem FrR.trans {L H : Nat → Nat} {N : Nat} {a b c : World} (h : FrR L H N a b) {j : Nat} (hj : j < N) (k : Fr (L j) (H j) b c) : FrR L H N a c :=
  ⟨k.os.trans h.os, k.tape.trans h.tape, k.output.trans h.output, Nat.le_trans h.size k.size, fun i hi hh => (k.block i (Nat.lt_of_lt_of_le hi h.size) (hh j hj)).trans (h.block i hi hh)⟩
theorem Own.frR {L H : Nat → Nat} {N : Nat} {w w' : World} {lo hi s n c : Nat} {e : TypeId} {A : Option Addr} {xs : List Value} (h : Own w lo hi e s A n c xs) (f : FrR L H N w w') (ha : ∀ k, k < N → hi ≤ L k ∨ H k ≤ lo) : Own w' lo hi e s A n c xs :=
  h.keep fun g h1 h2 hg => f.block g hg fun k hk => by have := ha k hk; omega
theorem Sees.frR {L H : Nat → Nat} {N : Nat} {w w' : World} {B s n c : Nat} {A : Option Addr} {xs : List Value} (h : Sees w B s A n c xs) (f : FrR L H N w w') (ha : ∀ k, k < N → B ≤ L k) (hB : B ≤ w.heap.size) : Sees w' B s A n c xs :=
  h.keep fun q hq => World.cell?_of_block (f.block _ (by omega) fun k hk => by have := ha k hk; omega)
theorem FrR.below {L H : Nat → Nat} {N : Nat} {a w w' : World} {D : Nat} (h : Below D a w) (f : FrR L H N w w') (ha : ∀ k, k < N → D ≤ L k) (hD : D ≤ a.heap.size) : Below D a w' :=
  h.trans ⟨f.os, f.tape, f.output, f.size, fun i hi => f.block i (by have := h.size; omega) fun k hk => by have := ha k hk; omega⟩
set_option maxHeartbeats 1000000 in
theorem eqIntSS_t (A A' : Option Addr) (n c n' c' B B' : Nat) (vs vs' : List Value) (x : List (List Int)) (w : World) (h : Sees w B 1 A n c vs) (hr : RowsSee w B vs x) (h' : Sees w B' 1 A' n' c' vs') (hr' : RowsSee w B' vs' x) (hB : B ≤ w.heap.size) (hB' : B' ≤ w.heap.size) :
    Calls Try.prog 21 #[.slice A n c, .slice A' n' c'] w (RetPure w (.bool true)) := by
  have hn : x.length = n := by have := h.len; rw [hr.1] at this; omega
  have hn' : n' = n := by have := h'.len; rw [hr'.1] at this; omega
  subst hn'
  have hc1 := h.cap
  have hc2 := h.big
  have hc3 := h'.cap
  have hc4 := h'.big
  have HN : Hid (x.length = n') := Lib.hid hn
  clear hn
  go_enter Try.func21, Try.ntmps21
  go_wp2_with fail
  go_loopw [5] (fun i wr => ∃ k : Nat, k ≤ n' ∧ i = .int .i64 k ∧ Below w.heap.size w wr) (fun i _ => n' - (intOf i).toNat)
  case atStart => exact ⟨0, Nat.zero_le _, rfl, Below.refl _ _⟩
  case round =>
    obtain ⟨k, hk, rfl, hb⟩ := hrel
    have sz := hb.size
    by_cases hlt : k < n'
    · have hkx : k < x.length := by rw [HN.out]; exact hlt
      obtain ⟨b, o, rfl, hb1, hcell⟩ := (h.below hb hB).at_ (by omega)
      obtain ⟨b', o', rfl, hb2, hcell'⟩ := (h'.below hb hB').at_ (by omega)
      obtain ⟨A1, n1, c1, hv1, hs1⟩ := (hr.below hb hB).2 k _ (List.getElem?_eq_getElem hkx)
      obtain ⟨A2, n2, c2, hv2, hs2⟩ := (hr'.below hb hB').2 k _ (List.getElem?_eq_getElem hkx)
      have hx := hcell k _ hv1
      have hy := hcell' k _ hv2
      clear hcell hcell' hv1 hv2
      generalize x[k] = e at *
      have i1 : (0 : Int) ≤ (k : Int) := by omega
      have i2 : (k : Int) < (n' : Int) := by omega
      have i3 : b < wr.heap.size := by omega
      have i4 : b' < wr.heap.size := by omega
      have HC := Lib.hid (fun q => eqIntS_t _ _ _ _ _ _ _ _ e (wr.drewN q) (hs1.drewN q) (hs2.drewN q))
      clear hs1 hs2
      go_wp2_with fail
      go_region_held3 (fun w' => w'.cell? ⟨b, o + k, none⟩ = some (Value.slice A1 n1 c1) ∧ w'.cell? ⟨b', o' + k, none⟩ = some (Value.slice A2 n2 c2)) (first | (refine ⟨?_, ?_⟩ <;> assumption) | go_keep) (first | (go_at_call 20; refine (HC.out 1).mono ?_; rintro e w1 ⟨rfl, b1⟩; have hB1 := below_later (below_drewN hb 1) b1 (by show w.heap.size ≤ w.heap.size; omega); have j0 := (b1.cell (p := ⟨b, o + k, none⟩) i3).trans hx; have j1 := (b1.cell (p := ⟨b', o' + k, none⟩) i4).trans hy))
      go_wp2_with fail
      go_roundw
      case rel => exact ⟨k + 1, by omega, by go_num, hB1⟩
      case measure => simp [intOf]; omega
    · go_wp2_with fail
      go_ret
      exact ⟨rfl, hb⟩
set_option maxHeartbeats 1000000 in
theorem sameRows_t (A A' : Option Addr) (n c n' c' B B' : Nat) (vs vs' : List Value) (x : List (List Int)) (w : World) (h : Sees w B 1 A n c vs) (hr : RowsSee w B vs x) (h' : Sees w B' 1 A' n' c' vs') (hr' : RowsSee w B' vs' x) (hB : B ≤ w.heap.size) (hB' : B' ≤ w.heap.size) :
    Calls Try.prog 46 #[.slice A n c, .slice A' n' c'] w (RetPure w (.bool true)) := by
  have hn : x.length = n := by have := h.len; rw [hr.1] at this; omega
  have hn' : n' = n := by have := h'.len; rw [hr'.1] at this; omega
  subst hn'
  have hc1 := h.cap
  have hc2 := h.big
  have hc3 := h'.cap
  have hc4 := h'.big
  have HN : Hid (x.length = n') := Lib.hid hn
  clear hn
  go_enter Try.func46, Try.ntmps46
  go_wp2_with fail
  go_loopw [5] (fun i wr => ∃ k : Nat, k ≤ n' ∧ i = .int .i64 k ∧ Below w.heap.size w wr) (fun i _ => n' - (intOf i).toNat)
  case atStart => exact ⟨0, Nat.zero_le _, rfl, Below.refl _ _⟩
  case round =>
    obtain ⟨k, hk, rfl, hb⟩ := hrel
    have sz := hb.size
    by_cases hlt : k < n'
    · have hkx : k < x.length := by rw [HN.out]; exact hlt
      obtain ⟨b, o, rfl, hb1, hcell⟩ := (h.below hb hB).at_ (by omega)
      obtain ⟨b', o', rfl, hb2, hcell'⟩ := (h'.below hb hB').at_ (by omega)
      obtain ⟨A1, n1, c1, hv1, hs1⟩ := (hr.below hb hB).2 k _ (List.getElem?_eq_getElem hkx)
      obtain ⟨A2, n2, c2, hv2, hs2⟩ := (hr'.below hb hB').2 k _ (List.getElem?_eq_getElem hkx)
      have hx := hcell k _ hv1
      have hy := hcell' k _ hv2
      clear hcell hcell' hv1 hv2
      generalize x[k] = e at *
      have i1 : (0 : Int) ≤ (k : Int) := by omega
      have i2 : (k : Int) < (n' : Int) := by omega
      have i3 : b < wr.heap.size := by omega
      have i4 : b' < wr.heap.size := by omega
      have HC := Lib.hid (fun q => sameInts_t _ _ _ _ _ _ _ _ e (wr.drewN q) (hs1.drewN q) (hs2.drewN q))
      clear hs1 hs2
      go_wp2_with fail
      go_region_held3 (fun w' => w'.cell? ⟨b, o + k, none⟩ = some (Value.slice A1 n1 c1) ∧ w'.cell? ⟨b', o' + k, none⟩ = some (Value.slice A2 n2 c2)) (first | (refine ⟨?_, ?_⟩ <;> assumption) | go_keep) (first | (go_at_call 29; refine (HC.out 1).mono ?_; rintro e w1 ⟨rfl, b1⟩; have hB1 := below_later (below_drewN hb 1) b1 (by show w.heap.size ≤ w.heap.size; omega); have j0 := (b1.cell (p := ⟨b, o + k, none⟩) i3).trans hx; have j1 := (b1.cell (p := ⟨b', o' + k, none⟩) i4).trans hy))
      go_wp2_with fail
      go_roundw
      case rel => exact ⟨k + 1, by omega, by go_num, hB1⟩
      case measure => simp [intOf]; omega
    · go_wp2_with fail
      go_ret
      exact ⟨rfl, hb⟩
set_option maxHeartbeats 1000000 in
theorem markIntSS_any (A : Option Addr) (n c lo hi : Nat) (L H : Nat → Nat) (vs : List Value) (x : List (List Int)) (k0 : Int) (w : World) (h : Own w lo hi 22 1 A n c vs) (hr : RowsAt w L H vs x) (hap : ∀ i k, i < k → k < x.length → H i ≤ L k) (ho : ∀ k, k < x.length → hi ≤ L k ∨ H k ≤ lo) (hk0 : 0 ≤ k0) (hk1 : k0 + tot x ≤ 9223372036854775807) :
    Calls Try.prog 25 #[.slice A n c, .int .i64 k0] w fun e w' => e = .returned (.int .i64 (k0 + tot x)) ∧ RowsAt w' L H vs (mixR k0 x x.length) ∧ FrR L H x.length w w' := by
  have hn : x.length = n := by have := h.len; rw [hr.1] at this; omega
  have hc1 := h.cap
  have hc2 := h.big
  have HN : Hid (x.length = n) := Lib.hid hn
  have HR := Lib.hid hr
  clear hn hr
  go_enter Try.func25, Try.ntmps25
  go_wp2_with fail
  go_loopw [1, 5] (fun t i wr => ∃ k : Nat, k ≤ n ∧ i = .int .i64 k ∧ t = .int .i64 (k0 + (tot (x.take k) : Nat)) ∧ RowsAt wr L H vs (mixR k0 x k) ∧ FrR L H x.length w wr) (fun _ i _ => n - (intOf i).toNat)
  case atStart => exact ⟨0, Nat.zero_le _, rfl, by simp [tot], by rw [mixR_zero]; exact HR.out, FrR.refl _ _ _ _⟩
  case round =>
    clear HR
    obtain ⟨k, hk, rfl, rfl, hr, hf⟩ := hrel
    by_cases hlt : k < n
    · have hkx : k < x.length := by rw [HN.out]; exact hlt
      obtain ⟨b, o, rfl, hb1, hcell⟩ := (h.frR hf ho).sees.at_ (by omega)
      obtain ⟨A1, n1, c1, hv1, hs1⟩ := hr.2 k _ (mixR_get k0 x k k hkx)
      rw [if_neg (by omega)] at hs1
      have hx := hcell k _ hv1
      have hl1 := hs1.sees.int
      have hts := tot_step x k hkx
      have htl := tot_le x (k + 1)
      have HMK := Lib.hid (markIntS_any A1 n1 c1 _ _ _ (k0 + (tot (x.take k) : Nat)) wr hs1 (by omega) (by omega))
      have HNX := Lib.hid (fun (w1 : World) f o => RowsAt.mark (w' := w1) hr hkx f hv1 o hap)
      rw [hl1] at HNX hts
      have HT : Hid (k0 + ((tot (x.take k) : Nat) : Int) + (n1 : Int) = k0 + ((tot (x.take (k + 1)) : Nat) : Int)) := Lib.hid (by rw [hts]; omega)
      clear hcell hv1 hs1 hr hts htl hl1
      generalize tot (x.take k) = q0 at *
      go_wp2_with fail
      refine HMK.out.mono ?_
      rintro e w1 ⟨rfl, o1, f1, _⟩
      have hr1 := HNX.out w1 f1 o1
      have hf1 := hf.trans hkx f1
      clear HMK HNX
      go_wp2_with fail
      go_roundw
      case rel => exact ⟨k + 1, by omega, by go_num, by rw [HT.out], hr1, hf1⟩
      case measure => simp [intOf]; omega
    · have hk : k = n := by omega
      subst hk
      have HT : Hid (tot (x.take k) = tot x) := Lib.hid (by rw [List.take_of_length_le (by rw [HN.out]; exact Nat.le_refl _)])
      rw [← HN.out] at hr
      go_wp2_with fail
      go_ret
      exact ⟨by first | rfl | (rw [HT.out]; rfl), by first | exact hr | (rw [HN.out] at hr; exact hr) | (rw [HN.out]; rw [HN.out] at hr; exact hr), hf⟩
set_option maxHeartbeats 1000000 in
theorem heldIntSS_any (A : Option Addr) (n c B : Nat) (vs : List Value) (x : List (List Int)) (k0 : Int) (w : World) (h : Sees w B 1 A n c vs) (hr : RowsSee w B vs (mixR k0 x x.length)) (hk0 : 0 ≤ k0) (hk1 : k0 + tot x ≤ 9223372036854775807) :
    Calls Try.prog 27 #[.slice A n c, .int .i64 k0] w fun e w' => e = .returned (.int .i64 (k0 + tot x)) ∧ w = w' := by
  have hn : x.length = n := by have := h.len; rw [hr.1, mixR_length] at this; omega
  have hc1 := h.cap
  have hc2 := h.big
  have HN : Hid (x.length = n) := Lib.hid hn
  clear hn
  go_enter Try.func27, Try.ntmps27
  go_wp2_with fail
  go_loop [1, 5] (fun t i => ∃ k : Nat, k ≤ n ∧ i = .int .i64 k ∧ t = .int .i64 (k0 + (tot (x.take k) : Nat))) (fun _ i => n - (intOf i).toNat)
  case atStart => exact ⟨0, Nat.zero_le _, rfl, by simp [tot]⟩
  case round =>
    obtain ⟨k, hk, rfl, rfl⟩ := hrel
    by_cases hlt : k < n
    · have hkx : k < x.length := by rw [HN.out]; exact hlt
      obtain ⟨b, o, rfl, hb1, hcell⟩ := h.at_ (by omega)
      obtain ⟨A1, n1, c1, hv1, hs1⟩ := hr.2 k _ (mixR_get k0 x x.length k hkx)
      rw [if_pos hkx] at hs1
      have hx := hcell k _ hv1
      have hl1 := hs1.int
      rw [upfrom_length] at hl1
      have hts := tot_step x k hkx
      have htl := tot_le x (k + 1)
      rw [hl1] at hs1 hts
      have HMK := Lib.hid (heldIntS_any A1 n1 c1 _ (k0 + (tot (x.take k) : Nat)) w hs1 (by omega) (by omega))
      have HT : Hid (k0 + ((tot (x.take k) : Nat) : Int) + (n1 : Int) = k0 + ((tot (x.take (k + 1)) : Nat) : Int)) := Lib.hid (by rw [hts]; omega)
      clear hcell hv1 hs1 hts htl hl1
      generalize tot (x.take k) = q0 at *
      go_wp2_with fail
      refine HMK.out.mono ?_
      rintro e w1 ⟨rfl, rfl⟩
      clear HMK
      go_wp2_with fail
      go_round
      case rel => exact ⟨k + 1, by omega, by go_num, by rw [HT.out]⟩
      case measure => simp [intOf]; omega
    · have hk : k = n := by omega
      subst hk
      have HT : Hid (tot (x.take k) = tot x) := Lib.hid (by rw [List.take_of_length_le (by rw [HN.out]; exact Nat.le_refl _)])
      go_wp2_with fail
      go_ret
      exact ⟨by first | rfl | (rw [HT.out]; rfl), rfl⟩
end Go.Proofs.Ythnebfcclkebeaa
