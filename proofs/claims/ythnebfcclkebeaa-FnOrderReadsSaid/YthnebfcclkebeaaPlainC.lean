/-
  Plain laws on commands for a disk: what CommandValid, CommandWord, ReadCommand, ExecuteCommand and CommandsClash compute, and what the laws ask of it. No program in sight.
-/
import Derived.Test.YthnebfcclkebeaaPlainD
namespace Go.Proofs.Ythnebfcclkebeaa

structure Cmd where
  kind : Int
  pos : Int
  cnt : Int
  val : Int

def cval (c : Cmd) (size : Int) : Bool :=
  decide (0 ≤ size ∧ size ≤ 64 ∧ ((c.kind = 4 ∧ c.pos = 0 ∧ c.cnt = 0 ∧ c.val = 0) ∨
    ((1 ≤ c.kind ∧ c.kind ≤ 3) ∧ (c.kind = 2 ∨ c.val = 0) ∧ (0 ≤ c.val ∧ c.val ≤ 255) ∧ 1 ≤ c.cnt ∧ (0 ≤ c.pos ∧ c.pos ≤ size) ∧ c.cnt ≤ size - c.pos)))
theorem cval_iff (c : Cmd) (size : Int) : cval c size = true ↔ (0 ≤ size ∧ size ≤ 64 ∧ ((c.kind = 4 ∧ c.pos = 0 ∧ c.cnt = 0 ∧ c.val = 0) ∨
    ((1 ≤ c.kind ∧ c.kind ≤ 3) ∧ (c.kind = 2 ∨ c.val = 0) ∧ (0 ≤ c.val ∧ c.val ≤ 255) ∧ 1 ≤ c.cnt ∧ (0 ≤ c.pos ∧ c.pos ≤ size) ∧ c.cnt ≤ size - c.pos))) := by
  unfold cval; rw [decide_eq_true_iff]
theorem cval_mono (c : Cmd) (s t : Int) (h : cval c s = true) (hs : s ≤ t) (ht : t ≤ 64) : cval c t = true := by
  rw [cval_iff] at h ⊢; omega
theorem cval_kind (c : Cmd) (s : Int) (h : cval c s = true) : 1 ≤ c.kind ∧ c.kind ≤ 4 := by
  rw [cval_iff] at h; omega
theorem cval_5 (c : Cmd) (s : Int) : cval { c with kind := 5 } s = false := by
  rw [Bool.eq_false_iff]; intro h; have := cval_kind _ _ h; simp at this

def wordOf (c : Cmd) : Int := c.kind + 8 * (c.pos + 64 * (c.cnt + 128 * c.val))
def cword (c : Cmd) : Int := if cval c 64 = true then wordOf c else -1
def rcmd (n : Int) : Cmd := ⟨n % 8, n / 8 % 64, n / 512 % 128, n / 65536⟩
def rdok (n : Int) : Bool := decide (0 ≤ n) && cval (rcmd n) 64
theorem wordOf_bd (c : Cmd) (h : cval c 64 = true) : 0 < wordOf c ∧ wordOf c < 65536 * 256 := by
  rw [cval_iff] at h; unfold wordOf; omega
theorem cword_of (c : Cmd) (h : cval c 64 = true) : cword c = wordOf c := by unfold cword; rw [if_pos h]
theorem cword_no (c : Cmd) (h : cval c 64 = false) : cword c = -1 := by unfold cword; rw [if_neg (by simp [h])]
theorem rcmd_word (c : Cmd) (h : cval c 64 = true) : rcmd (wordOf c) = c := by
  obtain ⟨k, p, n, v⟩ := c
  rw [cval_iff] at h
  simp only [wordOf, rcmd, Cmd.mk.injEq] at h ⊢
  omega
theorem word_rcmd (n : Int) : wordOf (rcmd n) = n := by
  simp only [wordOf, rcmd]; omega
theorem cword_rcmd (n : Int) (h0 : 0 ≤ n) : (cword (rcmd n) = n) ↔ cval (rcmd n) 64 = true := by
  constructor
  · intro h
    cases hb : cval (rcmd n) 64 with
    | true => rfl
    | false => rw [cword_no _ hb] at h; omega
  · intro h; rw [cword_of _ h, word_rcmd n]
theorem rdok_word (c : Cmd) (h : cval c 64 = true) : rdok (cword c) = true := by
  have := wordOf_bd c h
  rw [cword_of c h]; simp only [rdok, rcmd_word c h, h, Bool.and_true, decide_eq_true_iff]; omega
theorem cword_inj (c d : Cmd) (h : cval c 64 = true) : (cword d = cword c) ↔ (c = d) := by
  constructor
  · intro he
    cases hb : cval d 64 with
    | true => rw [cword_of _ hb, cword_of _ h] at he; rw [← rcmd_word c h, ← rcmd_word d hb, he]
    | false => have := wordOf_bd c h; rw [cword_no _ hb, cword_of _ h] at he; omega
  · rintro rfl; rfl

def clash (a b : Cmd) : Bool :=
  cval a 64 && cval b 64 && (decide (a.kind = 4) || decide (b.kind = 4) ||
    ((decide (a.kind ≠ 1) || decide (b.kind ≠ 1)) && decide (a.pos < b.pos + b.cnt) && decide (b.pos < a.pos + a.cnt)))
theorem clash_iff (a b : Cmd) : clash a b = true ↔ (cval a 64 = true ∧ cval b 64 = true ∧ (a.kind = 4 ∨ b.kind = 4 ∨ ((a.kind ≠ 1 ∨ b.kind ≠ 1) ∧ a.pos < b.pos + b.cnt ∧ b.pos < a.pos + a.cnt))) := by
  simp [clash, and_assoc, or_assoc]
theorem clash_comm (a b : Cmd) : clash a b = clash b a := by
  rw [Bool.eq_iff_iff, clash_iff, clash_iff]
  constructor <;> (rintro ⟨h1, h2, h⟩; refine ⟨h2, h1, ?_⟩; omega)

/-- Does the command write the sector? -/
def hits (c : Cmd) (i : Nat) : Bool := decide ((c.kind = 2 ∨ c.kind = 3) ∧ c.pos ≤ i ∧ (i : Int) < c.pos + c.cnt)
def xdisk (d : List Int) (c : Cmd) : List Int :=
  if c.kind = 2 ∨ c.kind = 3 then d.take c.pos.toNat ++ (List.replicate c.cnt.toNat c.val ++ d.drop (c.pos.toNat + c.cnt.toNat)) else d
def xread (d : List Int) (c : Cmd) : List Int := if c.kind = 1 then (d.drop c.pos.toNat).take c.cnt.toNat else []
def exD (d : List Int) (c : Cmd) : List Int := if (dval d && cval c d.length) = true then xdisk d c else []
def exR (d : List Int) (c : Cmd) : List Int := if (dval d && cval c d.length) = true then xread d c else []
theorem exD_of {d : List Int} {c : Cmd} (hd : dval d = true) (hc : cval c d.length = true) : exD d c = xdisk d c := by unfold exD; rw [if_pos (by simp [hd, hc])]
theorem exR_of {d : List Int} {c : Cmd} (hd : dval d = true) (hc : cval c d.length = true) : exR d c = xread d c := by unfold exR; rw [if_pos (by simp [hd, hc])]
theorem exD_no {d : List Int} {c : Cmd} (h : (dval d && cval c d.length) = false) : exD d c = [] := by unfold exD; rw [if_neg (by simp [h])]
theorem exR_no {d : List Int} {c : Cmd} (h : (dval d && cval c d.length) = false) : exR d c = [] := by unfold exR; rw [if_neg (by simp [h])]

theorem xdisk_len (d : List Int) (c : Cmd) (hc : cval c d.length = true) : (xdisk d c).length = d.length := by
  rw [cval_iff] at hc
  unfold xdisk
  split
  · simp only [List.length_append, List.length_take, List.length_drop, List.length_replicate]; omega
  · rfl
theorem xdisk_get (d : List Int) (c : Cmd) (hc : cval c d.length = true) (i : Nat) : (xdisk d c)[i]? = if hits c i = true then some c.val else d[i]? := by
  rw [cval_iff] at hc
  unfold xdisk hits
  by_cases hk : c.kind = 2 ∨ c.kind = 3
  · rw [if_pos hk]
    have hl : (d.take c.pos.toNat).length = c.pos.toNat := by rw [List.length_take]; omega
    by_cases h1 : i < c.pos.toNat
    · rw [List.getElem?_append_left (by omega), List.getElem?_take, if_pos h1, if_neg (by simp; omega)]
    · rw [List.getElem?_append_right (by omega), hl]
      by_cases h2 : i - c.pos.toNat < c.cnt.toNat
      · rw [List.getElem?_append_left (by simpa using h2), List.getElem?_replicate, if_pos h2, if_pos (by simp; omega)]
      · rw [List.getElem?_append_right (by simp; omega), List.length_replicate, List.getElem?_drop, if_neg (by simp; omega)]
        congr 1; omega
  · rw [if_neg hk, if_neg (by simp; intro h; exact absurd h hk)]
theorem xdisk_val (d : List Int) (c : Cmd) (hd : dval d = true) (hc : cval c d.length = true) : dval (xdisk d c) = true := by
  rw [dval_iff] at hd ⊢
  refine ⟨by rw [xdisk_len d c hc]; exact hd.1, fun v hv => ?_⟩
  obtain ⟨i, hi⟩ := List.getElem?_of_mem hv
  rw [xdisk_get d c hc] at hi
  split at hi
  · rw [cval_iff] at hc; injection hi with hi; omega
  · exact hd.2 v (List.mem_of_getElem? hi)
theorem xread_get (d : List Int) (c : Cmd) (i : Nat) : (xread d c)[i]? = if c.kind = 1 ∧ i < c.cnt.toNat then d[c.pos.toNat + i]? else none := by
  unfold xread
  by_cases hk : c.kind = 1
  · rw [if_pos hk, List.getElem?_take]
    by_cases hi : i < c.cnt.toNat
    · rw [if_pos hi, if_pos ⟨hk, hi⟩, List.getElem?_drop]
    · rw [if_neg hi, if_neg (by simp [hi])]
  · rw [if_neg hk, if_neg (by simp [hk])]; rfl
theorem xdisk_comm (d : List Int) (a b : Cmd) (ha : cval a d.length = true) (hb : cval b d.length = true) (hn : clash a b = false) :
    xdisk (xdisk d a) b = xdisk (xdisk d b) a := by
  have hl : (d.length : Int) ≤ 64 := ((cval_iff _ _).1 ha).2.1
  have ha' := cval_mono a _ 64 ha hl (by omega)
  have hb' := cval_mono b _ 64 hb hl (by omega)
  have hn' : ¬ _ := fun h => by rw [Bool.eq_false_iff] at hn; exact hn ((clash_iff a b).2 ⟨ha', hb', h⟩)
  apply List.ext_getElem?
  intro i
  rw [xdisk_get _ b (by rw [xdisk_len d a ha]; exact hb), xdisk_get _ a ha, xdisk_get _ a (by rw [xdisk_len d b hb]; exact ha), xdisk_get _ b hb]
  by_cases h1 : hits a i = true
  · by_cases h2 : hits b i = true
    · exfalso; simp [hits] at h1 h2; omega
    · rw [if_neg h2, if_pos h1, if_pos h1]
  · by_cases h2 : hits b i = true
    · rw [if_pos h2, if_neg h1, if_pos h2]
    · rw [if_neg h2, if_neg h1, if_neg h1, if_neg h2]
theorem xread_comm (d : List Int) (a b : Cmd) (ha : cval a d.length = true) (hb : cval b d.length = true) (hn : clash a b = false) :
    xread (xdisk d b) a = xread d a := by
  have hl : (d.length : Int) ≤ 64 := ((cval_iff _ _).1 ha).2.1
  have ha' := cval_mono a _ 64 ha hl (by omega)
  have hb' := cval_mono b _ 64 hb hl (by omega)
  have hn' : ¬ _ := fun h => by rw [Bool.eq_false_iff] at hn; exact hn ((clash_iff a b).2 ⟨ha', hb', h⟩)
  apply List.ext_getElem?
  intro i
  rw [xread_get, xread_get]
  by_cases h1 : a.kind = 1 ∧ i < a.cnt.toNat
  · rw [if_pos h1, if_pos h1, xdisk_get _ b hb]
    by_cases h2 : hits b (a.pos.toNat + i) = true
    · exfalso; rw [cval_iff] at ha; simp [hits] at h2; omega
    · rw [if_neg h2]
  · rw [if_neg h1, if_neg h1]
theorem xdisk_same (d : List Int) (c : Cmd) (hc : c.kind = 1 ∨ c.kind = 4) : xdisk d c = d := by unfold xdisk; rw [if_neg (by omega)]
theorem xdisk_twice (d : List Int) (c : Cmd) (hc : cval c d.length = true) : xdisk (xdisk d c) c = xdisk d c := by
  apply List.ext_getElem?
  intro i
  rw [xdisk_get _ c (by rw [xdisk_len d c hc]; exact hc), xdisk_get _ c hc]
  split <;> rfl
theorem xread_rdS (d : List Int) (c : Cmd) (hd : dval d = true) (hc : cval c d.length = true) (hk : c.kind = 1 ∨ c.kind = 4) : xread d c = rdS d c.pos c.cnt := by
  rw [cval_iff] at hc
  rw [rdS_of d c.pos c.cnt (by rw [hd, Bool.true_and, strch_iff]; omega)]
  unfold xread
  split
  · rfl
  · rw [show c.cnt = 0 by omega]; simp
theorem xread_w (d : List Int) (c : Cmd) (hk : c.kind ≠ 1) : xread d c = [] := by unfold xread; rw [if_neg hk]
theorem xdisk_wrS (d : List Int) (c : Cmd) (hd : dval d = true) (hc : cval c d.length = true) (hk : ¬ (c.kind = 1 ∨ c.kind = 4)) :
    xdisk d c = wrS d c.pos (List.replicate c.cnt.toNat c.val) := by
  rw [cval_iff] at hc
  have h1 : allw (List.replicate c.cnt.toNat c.val) 0 255 = true := by
    rw [allw_iff]; intro v hv; have := (List.mem_replicate.1 hv).2; omega
  rw [wrS_of d c.pos _ (by rw [hd, h1, Bool.true_and, Bool.true_and, strch_iff, List.length_replicate]; omega), List.length_replicate]
  unfold xdisk
  rw [if_pos (by omega)]
theorem xdisk_trim (d : List Int) (p n : Int) : xdisk d ⟨3, p, n, 0⟩ = xdisk d ⟨2, p, n, 0⟩ := by simp [xdisk]
theorem cval_trim (c : Cmd) (s : Int) (h : cval c s = true) (hk : c.kind ≠ 4) : cval ⟨3, c.pos, c.cnt, 0⟩ s = true ∧ cval ⟨2, c.pos, c.cnt, 0⟩ s = true := by
  rw [cval_iff] at h
  rw [cval_iff, cval_iff]
  refine ⟨⟨h.1, h.2.1, .inr ⟨⟨by show (1 : Int) ≤ 3; omega, by show (3 : Int) ≤ 3; omega⟩, .inr rfl, ⟨by show (0 : Int) ≤ 0; omega, by show (0 : Int) ≤ 255; omega⟩, ?_⟩⟩, ⟨h.1, h.2.1, .inr ⟨⟨by show (1 : Int) ≤ 2; omega, by show (2 : Int) ≤ 3; omega⟩, .inl rfl, ⟨by show (0 : Int) ≤ 0; omega, by show (0 : Int) ≤ 255; omega⟩, ?_⟩⟩⟩ <;> (show 1 ≤ c.cnt ∧ (0 ≤ c.pos ∧ c.pos ≤ s) ∧ c.cnt ≤ s - c.pos) <;> omega
end Go.Proofs.Ythnebfcclkebeaa
