/- Walks and facts of this seat's program over abstract states, printed by a program of mine; no conditions but those that each theorem names. -/
import Derived.Test.YtmjbbnfmhgcfaaaFc
import Derived.Test.YtmjbbnfmhgcfaaaEngS
set_option linter.unusedSimpArgs false
set_option linter.unusedVariables false
set_option maxRecDepth 100000
set_option maxHeartbeats 4000000
namespace Go.Proofs.Ytmjbbnfmhgcfaaa
open Go Go.Eng

theorem i64i {x : Int} (h : -9000000000000 ≤ x ∧ x ≤ 9000000000000) : IntKind.i64.wrap x = x := by rw [IntKind.wrap_i64]; omega
/-- The cells of so many integers; of bools; of rows. -/
def il : Nat → (Nat → Int) → List CV
  | 0, _ => []
  | n + 1, f => il n f ++ [.int .i64 (f n)]
theorem il_len : ∀ (n : Nat) (f : Nat → Int), (il n f).length = n
  | 0, _ => rfl
  | n + 1, f => by simp only [il, List.length_append, il_len n f, List.length_cons, List.length_nil]
theorem il_get : ∀ {n : Nat} {f : Nat → Int} {i : Nat}, i < n → (il n f)[i]? = some (.int .i64 (f i))
  | n + 1, f, i, hi => by
    simp only [il]
    rcases Nat.lt_or_ge i n with h | h
    · rw [List.getElem?_append_left (by rw [il_len]; omega)]; exact il_get h
    · have e : i = n := by omega
      subst e
      rw [List.getElem?_append_right (by rw [il_len]; omega), il_len, Nat.sub_self]; rfl
theorem il_vals : ∀ (n : Nat) (f : Nat → Int), (il n f).all CV.isVal = true
  | 0, _ => rfl
  | n + 1, f => by simp only [il, List.all_append, il_vals n f, List.all_cons, List.all_nil, CV.isVal]; rfl
theorem il_below : ∀ (L n : Nat) (f : Nat → Int), (il n f).all (CV.below L) = true
  | _, 0, _ => rfl
  | L, n + 1, f => by simp only [il, List.all_append, il_below L n f, List.all_cons, List.all_nil, CV.below]; rfl
theorem ext_get {α : Type} {a b : List α} (h : ∀ i : Nat, a[i]? = b[i]?) : a = b := List.ext_getElem? h
theorem il_of {cells : List CV} {n : Nat} {f : Nat → Int} (hl : cells.length = n) (h : ∀ i, i < n → cells[i]? = some (.int .i64 (f i))) : cells = il n f := by
  refine ext_get fun j => ?_
  rcases Nat.lt_or_ge j n with hj | hj
  · rw [h j hj, il_get hj]
  · rw [List.getElem?_eq_none (by omega), List.getElem?_eq_none (by rw [il_len]; omega)]
theorem il_congr {n : Nat} {f g : Nat → Int} (h : ∀ i, i < n → f i = g i) : il n f = il n g := il_of (il_len n f) fun i hi => by rw [il_get hi, h i hi]
def bl : Nat → (Nat → Bool) → List CV
  | 0, _ => []
  | n + 1, f => bl n f ++ [.bool (f n)]
theorem bl_len : ∀ (n : Nat) (f : Nat → Bool), (bl n f).length = n
  | 0, _ => rfl
  | n + 1, f => by simp only [bl, List.length_append, bl_len n f, List.length_cons, List.length_nil]
theorem bl_get : ∀ {n : Nat} {f : Nat → Bool} {i : Nat}, i < n → (bl n f)[i]? = some (.bool (f i))
  | n + 1, f, i, hi => by
    simp only [bl]
    rcases Nat.lt_or_ge i n with h | h
    · rw [List.getElem?_append_left (by rw [bl_len]; omega)]; exact bl_get h
    · have e : i = n := by omega
      subst e
      rw [List.getElem?_append_right (by rw [bl_len]; omega), bl_len, Nat.sub_self]; rfl
theorem bl_of {cells : List CV} {n : Nat} {f : Nat → Bool} (hl : cells.length = n) (h : ∀ i, i < n → cells[i]? = some (.bool (f i))) : cells = bl n f := by
  refine ext_get fun j => ?_
  rcases Nat.lt_or_ge j n with hj | hj
  · rw [h j hj, bl_get hj]
  · rw [List.getElem?_eq_none (by omega), List.getElem?_eq_none (by rw [bl_len]; omega)]
theorem bl_below (L n : Nat) (f : Nat → Bool) : (bl n f).all (CV.below L) = true := by
  refine List.all_eq_true.2 fun c hc => ?_
  obtain ⟨i, hi⟩ := List.getElem?_of_mem hc
  have hlt := (List.getElem?_eq_some_iff.1 hi).1
  rw [bl_len] at hlt
  rw [bl_get hlt] at hi
  injection hi with hi; subst hi; rfl
def updB (f : Nat → Bool) (j : Nat) (b : Bool) : Nat → Bool := fun i => if i = j then b else f i
theorem bl_set {n : Nat} {f : Nat → Bool} {j : Nat} {b : Bool} : (bl n f).set j (.bool b) = bl n (updB f j b) := by
  refine bl_of (by rw [List.length_set, bl_len]) fun i hi => ?_
  rw [List.getElem?_set]
  by_cases e : j = i
  · subst e; rw [if_pos rfl, if_pos (by rw [bl_len]; exact hi)]; simp [updB]
  · rw [if_neg e, bl_get hi]; simp only [updB]; rw [if_neg (fun h => e h.symm)]
def rl : Nat → (Nat → Nat) → (Nat → Nat) → (Nat → Nat) → List CV
  | 0, _, _, _ => []
  | n + 1, r, vv, ln => rl n r vv ln ++ [.sl (r n) (vv n) 0 (ln n)]
theorem rl_len : ∀ (n : Nat) (r vv ln : Nat → Nat), (rl n r vv ln).length = n
  | 0, _, _, _ => rfl
  | n + 1, r, vv, ln => by simp only [rl, List.length_append, rl_len n r vv ln, List.length_cons, List.length_nil]
theorem rl_get : ∀ {n : Nat} {r vv ln : Nat → Nat} {i : Nat}, i < n → (rl n r vv ln)[i]? = some (.sl (r i) (vv i) 0 (ln i))
  | n + 1, r, vv, ln, i, hi => by
    simp only [rl]
    rcases Nat.lt_or_ge i n with h | h
    · rw [List.getElem?_append_left (by rw [rl_len]; omega)]; exact rl_get h
    · have e : i = n := by omega
      subst e
      rw [List.getElem?_append_right (by rw [rl_len]; omega), rl_len, Nat.sub_self]; rfl
theorem rl_of {cells : List CV} {n : Nat} {r vv ln : Nat → Nat} (hl : cells.length = n) (h : ∀ i, i < n → cells[i]? = some (.sl (r i) (vv i) 0 (ln i))) : cells = rl n r vv ln := by
  refine ext_get fun j => ?_
  rcases Nat.lt_or_ge j n with hj | hj
  · rw [h j hj, rl_get hj]
  · rw [List.getElem?_eq_none (by omega), List.getElem?_eq_none (by rw [rl_len]; omega)]
/-- Integers, bools, rows of integers in memory. -/
structure IntsAt (m : AMem) (r v n : Nat) (f : Nat → Int) : Prop where
  hb : ∃ k ez, m[r]? = some ⟨k, 3, v, ez, il n f⟩
structure BoolsAt (m : AMem) (r v n : Nat) (f : Nat → Bool) : Prop where
  hb : ∃ k ez, m[r]? = some ⟨k, 4, v, ez, bl n f⟩
structure RowsAt (m : AMem) (r vp n : Nat) (ln : Nat → Nat) (q : Nat → Nat → Int) : Prop where
  hb : ∃ k ez rr vv, m[r]? = some ⟨k, 37, vp, ez, rl n rr vv ln⟩ ∧ ∀ i, i < n → IntsAt m (rr i) (vv i) (ln i) (q i)
theorem IntsAt.mono {m : AMem} {r v n : Nat} {f : Nat → Int} (h : IntsAt m r v n f) (x : AMem) : IntsAt (m ++ x) r v n f := by
  obtain ⟨k, ez, hb⟩ := h.hb; exact ⟨k, ez, lk_old hb x⟩
theorem BoolsAt.mono {m : AMem} {r v n : Nat} {f : Nat → Bool} (h : BoolsAt m r v n f) (x : AMem) : BoolsAt (m ++ x) r v n f := by
  obtain ⟨k, ez, hb⟩ := h.hb; exact ⟨k, ez, lk_old hb x⟩
theorem RowsAt.mono {m : AMem} {r vp n : Nat} {ln : Nat → Nat} {q : Nat → Nat → Int} (h : RowsAt m r vp n ln q) (x : AMem) : RowsAt (m ++ x) r vp n ln q := by
  obtain ⟨k, ez, rr, vv, hb, hr⟩ := h.hb; exact ⟨k, ez, rr, vv, lk_old hb x, fun i hi => (hr i hi).mono x⟩
def inL (n : Nat) (f : Nat → Int) (x : Int) : Bool := (List.range n).any fun i => f i == x
theorem inL_iff {n : Nat} {f : Nat → Int} {x : Int} : inL n f x = true ↔ ∃ i, i < n ∧ f i = x := by simp [inL]
theorem inL_no {n : Nat} {f : Nat → Int} {x : Int} (h : inL n f x = false) {i : Nat} (hi : i < n) : (f i == x) = false ∧ (x == f i) = false := by
  have : ¬ f i = x := fun e => by rw [inL_iff.2 ⟨i, hi, e⟩] at h; cases h
  exact ⟨by simpa using this, by simpa using fun e => this e.symm⟩
theorem inL_first {n : Nat} {f : Nat → Int} {x : Int} (h : inL n f x = true) : ∃ j, j < n ∧ f j = x ∧ ∀ i, i < j → ¬ f i = x := by
  obtain ⟨i, hi, e⟩ := inL_iff.1 h
  obtain ⟨k, h1, h2⟩ := least (p := fun i => i < n ∧ f i = x) i ⟨hi, e⟩
  exact ⟨k, h1.1, h1.2, fun i hi he => h2 i hi ⟨by omega, he⟩⟩

end Go.Proofs.Ytmjbbnfmhgcfaaa
