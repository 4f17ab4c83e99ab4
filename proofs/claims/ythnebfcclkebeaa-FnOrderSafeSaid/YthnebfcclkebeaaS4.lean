/-
  append, with word of where the new slice lies: in the old slice's span, or at the end of the memory that stood.
-/
import Derived.Test.YthnebfcclkebeaaS3
import Derived.Maps.AppendAt
namespace Go.Proofs.Ythnebfcclkebeaa
open Go.RowKit
section
variable {P : Program}
theorem wp_app2 (w : World) {o : Oper} {a : Act} {K : Act → World → Prop} {Q : Exit → Act → World → Prop} (x y : Operand) (t : TypeId)
    (ho : o.op = .call { callee := .builtin .append, args := #[x, y], argTypes := #[t, t] })
    (e : TypeId) (i : TypeInfo) (z : Value) (size bytes : Nat) (ht : P.underlying t = some (.slice e)) (hi : P.info? e = some i) (hz : i.zero = some z)
    (hsize : i.size = size) (hby : i.bytes = bytes) (hzs : z.cells.size = size) (hsz : 0 < size)
    (lo hi' : Nat) (A : Option Addr) (n c : Nat) (xs : List Value) (hs : a.eval x = .slice A n c) (hown : Own w lo hi' e size A n c xs)
    (B : Nat) (A' : Option Addr) (m c' : Nat) (news : List Value) (hx : a.eval y = .slice A' m c') (hsee : Sees w B size A' m c' news) (h1 : ∀ u ∈ news, u.oneCell' = true)
    (hbytes : (n + m) * bytes ≤ 140737488355328) (h63 : n + m ≤ 140737488355328) (hlo : lo ≤ w.heap.size)
    (h : ∀ A2 c2 w' lo2 hi2, Own w' lo2 hi2 e size A2 (n + m) c2 (xs ++ news) → ((lo2 = lo ∧ hi2 = hi') ∨ (lo2 = w.heap.size ∧ hi2 = w'.heap.size)) → Fr lo hi' w w' → K (a.put o.dst (.slice A2 (n + m) c2)) w') : o.wp P a w K Q := by
  cases A' with
  | none =>
    have hm : m = 0 := by
      rcases Nat.eq_zero_or_pos m with h0 | h0
      · exact h0
      · obtain ⟨b, o, e, _⟩ := hsee.at_ h0; cases e
    subst hm
    have hn : news = [] := List.eq_nil_of_length_eq_zero (by have := hsee.len; omega)
    subst hn
    have hrun : (Builtin.append_ #[t, t] o.type #[.slice A n c, .slice none 0 c']).run P w = .ok (.slice A n c) w := by
      rcases hown.at_ with ⟨rfl, rfl, rfl⟩ | ⟨g, cur, rfl, _⟩
      · simp [Builtin.append_, run_underlying ht, sizeOf, typeInfo, hi, Builtin.lenOf, Builtin.firstCells]
      · simp [Builtin.append_, run_underlying ht, sizeOf, typeInfo, hi, Builtin.lenOf, Builtin.firstCells, hown.cap, storeCells]
    unfold Oper.wp execOp
    simp only [ho, resolve, invoke, builtin, Sem.run_bind, Sem.run_pure, Result.andThen_ok, List.map_toArray, List.map_cons, List.map_nil, hs, hx, hrun]
    exact h A c w lo hi' (by simpa using hown) (.inl ⟨rfl, rfl⟩) (Fr.refl _ _ _)
  | some ad =>
    have hnews : ∀ j u, news[j]? = some u → w.cell? (ad.add j) = some u := by
      intro j u hu
      rcases Nat.eq_zero_or_pos m with h0 | h0
      · subst h0
        have hx : news = [] := List.eq_nil_of_length_eq_zero (by have := hsee.len; omega)
        subst hx
        simp at hu
      · obtain ⟨b, o, e, _, hc⟩ := hsee.at_ h0
        injection e with e
        subst e
        rw [add_addr]
        exact hc j u hu
    obtain ⟨v', w', hr, h2, h3, _, h5⟩ := run_append_own_at (P := P) (w := w) lo t o.type e i z size bytes ht hi hz hsize hby hzs hsz _ n xs hown.row ad m c' news hsee.len hnews h1 (by unfold maxLen; omega) hbytes hlo
    obtain ⟨A2, c2, rfl, h4⟩ := Own.of_row h2
    have hF : Fr lo hi' w w' := ⟨h3.os, h3.tape, h3.output, h3.size, fun k hk hh => h3.block k hk (fun he => by
      obtain ⟨q, hq, hk'⟩ := ownBlock_of he.symm
      rcases hown.at_ with ⟨hA, _⟩ | ⟨g, cur, hA, hg1, hg2, _⟩
      · rw [hA] at hq; cases hq
      · rw [hA] at hq; injection hq with hq; rw [← hq] at hk'; simp at hk'; omega)⟩
    unfold Oper.wp execOp
    simp only [ho, resolve, invoke, builtin, Sem.run_bind, Sem.run_pure, Result.andThen_ok, List.map_toArray, List.map_cons, List.map_nil, hs, hx, hr]
    rcases h4.at_ with ⟨hA2, hn2, hc2⟩ | ⟨g, cur, hA2, g1, g2, g3⟩
    · exact h A2 c2 w' lo hi' ⟨h4.len, h4.cap, h4.big, .inl ⟨hA2, hn2, hc2⟩⟩ (.inl ⟨rfl, rfl⟩) hF
    · subst hA2
      have hb : (Value.slice (some ⟨g, 0, none⟩) (n + m) c2).ownBlock = some g := rfl
      rw [hb] at h5
      rcases h5 with h5 | h5
      · obtain ⟨q, hq, hk'⟩ := ownBlock_of h5.symm
        rcases hown.at_ with ⟨hA, _⟩ | ⟨g0, cur0, hA, hg1, hg2, _⟩
        · rw [hA] at hq; cases hq
        · rw [hA] at hq
          injection hq with hq
          rw [← hq] at hk'
          simp only at hk'
          exact h _ c2 w' lo hi' ⟨h4.len, h4.cap, h4.big, .inr ⟨g, cur, rfl, by omega, by omega, g3⟩⟩ (.inl ⟨rfl, rfl⟩) hF
      · injection h5 with h5
        exact h _ c2 w' w.heap.size w'.heap.size ⟨h4.len, h4.cap, h4.big, .inr ⟨g, cur, rfl, by omega, g2, g3⟩⟩ (.inr ⟨rfl, rfl⟩) hF
theorem wpList_app2 (w : World) {ops : Array Oper} {rest : List Oper} {o : Oper} {a : Act} {Q : Exit → Act → World → Prop} (hw : Region.wanted o (yielded ops a.tmps) = true) (x y : Operand) (t : TypeId)
    (ho : o.op = .call { callee := .builtin .append, args := #[x, y], argTypes := #[t, t] })
    (e : TypeId) (i : TypeInfo) (z : Value) (size bytes : Nat) (ht : P.underlying t = some (.slice e)) (hi : P.info? e = some i) (hz : i.zero = some z)
    (hsize : i.size = size) (hby : i.bytes = bytes) (hzs : z.cells.size = size) (hsz : 0 < size)
    (lo hi' : Nat) (A : Option Addr) (n c : Nat) (xs : List Value) (hs : a.eval x = .slice A n c) (hown : Own w lo hi' e size A n c xs)
    (B : Nat) (A' : Option Addr) (m c' : Nat) (news : List Value) (hx : a.eval y = .slice A' m c') (hsee : Sees w B size A' m c' news) (h1 : ∀ u ∈ news, u.oneCell' = true)
    (hbytes : (n + m) * bytes ≤ 140737488355328) (h63 : n + m ≤ 140737488355328) (hlo : lo ≤ w.heap.size)
    (h : ∀ A2 c2 w' lo2 hi2, Own w' lo2 hi2 e size A2 (n + m) c2 (xs ++ news) → ((lo2 = lo ∧ hi2 = hi') ∨ (lo2 = w.heap.size ∧ hi2 = w'.heap.size)) → Fr lo hi' w w' → wpList P ops Q rest (a.put o.dst (.slice A2 (n + m) c2)) w') : wpList P ops Q (o :: rest) a w :=
  wpList_step fun _ hK => by
    rw [if_pos hw]
    exact wp_app2 w x y t ho e i z size bytes ht hi hz hsize hby hzs hsz lo hi' A n c xs hs hown B A' m c' news hx hsee h1 hbytes h63 hlo fun A2 c2 w' l2 h2 h3 h4 h5 => hK _ _ (h A2 c2 w' l2 h2 h3 h4 h5)
end
end Go.Proofs.Ythnebfcclkebeaa
