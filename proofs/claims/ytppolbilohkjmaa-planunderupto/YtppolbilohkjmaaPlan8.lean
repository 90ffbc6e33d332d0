/- Walks and facts of this seat's program over abstract states, printed by a program of mine; no conditions but those that each theorem names. -/
import Derived.Test.YtppolbilohkjmaaPlan7
set_option linter.unusedSimpArgs false
set_option linter.unusedVariables false
set_option maxRecDepth 100000
set_option maxHeartbeats 4000000
namespace Go.Proofs.Ytppolbilohkjmaa
open Go Go.Eng

theorem subset_len : ∀ (l o : List Nat), l.Nodup → (∀ x, x ∈ l → x ∈ o) → l.length ≤ o.length
  | [], _, _, _ => by simp
  | a :: l, o, hn, h => by
    have ha := h a List.mem_cons_self
    rw [List.nodup_cons] at hn
    have h1 := subset_len l (o.erase a) hn.2 fun x hx => by
      have hne : x ≠ a := fun e => by subst e; exact hn.1 hx
      exact (List.mem_erase_of_ne hne).2 (h x (List.mem_cons_of_mem _ hx))
    have h2 := List.length_erase_of_mem ha
    have h3 := List.length_pos_of_mem ha
    rw [List.length_cons]; omega
theorem full_mem {N : Nat} {o : List Nat} (hn : o.Nodup) (hm : ∀ i, i ∈ o → i < N) (hl : o.length = N) {i : Nat} (hi : i < N) : i ∈ o := by
  rcases Classical.em (i ∈ o) with h | h
  · exact h
  · have := nodup_len N (i :: o) (List.nodup_cons.2 ⟨h, hn⟩) fun j hj => by
      rcases List.mem_cons.1 hj with rfl | hj
      · exact hi
      · exact hm j hj
    rw [List.length_cons] at this; omega
section
variable {N : Nat} {ln : Nat → Nat} {q : Nat → Nat → Int}
theorem it_le (k : Nat) : (itO N ln q k).length ≤ k := by
  induction k with
  | zero => simp [itO]
  | succ k ih =>
    rw [itO]; split
    · rw [List.length_append]; simp; omega
    · omega
theorem it_full (h : (itO N ln q N).length = N) : ∀ k, k < N → ∃ i, nextO N ln q (itO N ln q k) = some i ∧ itO N ln q (k + 1) = itO N ln q k ++ [i] := fun k hk => by
  cases e : nextO N ln q (itO N ln q k) with
  | none =>
    have h1 := it_stop e (N - k)
    rw [show k + (N - k) = N by omega] at h1
    have := @it_le N ln q k
    rw [← h1, h] at this; omega
  | some i => exact ⟨i, rfl, it_next e⟩
theorem it_lenk (h : (itO N ln q N).length = N) : ∀ k, k ≤ N → (itO N ln q k).length = k
  | 0, _ => rfl
  | k + 1, hk => by
    obtain ⟨i, _, e⟩ := it_full h k (by omega)
    rw [e, List.length_append, it_lenk h k (by omega)]; rfl
theorem it_pre (k : Nat) : ∀ d, ∃ t, itO N ln q (k + d) = itO N ln q k ++ t
  | 0 => ⟨[], by simp⟩
  | d + 1 => by
    obtain ⟨t, e⟩ := it_pre k d
    rw [show k + (d + 1) = (k + d) + 1 by omega, itO]
    split
    · rename_i i _; exact ⟨t ++ [i], by rw [e, List.append_assoc]⟩
    · exact ⟨t, e⟩
/-- The step at a place of the whole order: it might be done once those before it were. -/
theorem it_at (h : (itO N ln q N).length = N) (k : Nat) (hk : k < N) : ∃ i, i < N ∧ (itO N ln q N)[k]? = some i ∧ (∀ x, x ∈ itO N ln q k → ∃ p, p < k ∧ (itO N ln q N)[p]? = some x) ∧ ∀ j, j < ln i → memO (itO N ln q k) (q i j) = true := by
  obtain ⟨i, h1, h2⟩ := it_full h k hk
  obtain ⟨t, h3⟩ := @it_pre N ln q (k + 1) (N - (k + 1))
  rw [show k + 1 + (N - (k + 1)) = N by omega, h2, List.append_assoc] at h3
  have hlk := it_lenk h k (by omega)
  obtain ⟨h4, h5, _⟩ := next_lt h1
  refine ⟨i, h4, ?_, fun x hx => ?_, fun j hj => ?_⟩
  · rw [h3, List.getElem?_append_right (by omega), hlk, Nat.sub_self]; rfl
  · obtain ⟨p, hp⟩ := List.getElem?_of_mem hx
    have hpl := (List.getElem?_eq_some_iff.1 hp).1
    exact ⟨p, by omega, by rw [h3, List.getElem?_append_left hpl]; exact hp⟩
  · simp only [mayB, Bool.and_eq_true, List.all_eq_true] at h5
    exact h5.2 j (List.mem_range.2 hj)
theorem memO_iff {o : List Nat} {x : Int} : memO o x = true ↔ ∃ y, y ∈ o ∧ (y : Int) = x := by simp [memO]
/-- While some step was not done, one may be done. -/
theorem ready_ex (h : (itO N ln q N).length = N) (o : List Nat) (ho : ∀ i, i ∈ o → i < N) (hl : o.length < N) : ∃ i, i < N ∧ rdB N ln q (doneF o) i = true := by
  have hex : ∃ p, p < N ∧ ∃ i, (itO N ln q N)[p]? = some i ∧ i ∉ o := by
    refine Classical.byContradiction fun hc => ?_
    have := subset_len (itO N ln q N) o (it_ok N ln q N).1 fun x hx => by
      obtain ⟨p, hp⟩ := List.getElem?_of_mem hx
      have hpl := (List.getElem?_eq_some_iff.1 hp).1
      exact Classical.byContradiction fun hn => hc ⟨p, by omega, x, hp, hn⟩
    omega
  obtain ⟨p0, h0⟩ := hex
  obtain ⟨p, ⟨hp, i, hi, hio⟩, hmin⟩ := least (p := fun p => p < N ∧ ∃ i, (itO N ln q N)[p]? = some i ∧ i ∉ o) p0 h0
  obtain ⟨i', h1, h2, h3, h4⟩ := it_at h p hp
  rw [hi] at h2; injection h2 with h2; subst h2
  refine ⟨i, h1, ?_⟩
  have := free_may (ln := ln) (q := q) ho i
  rw [rdB, this, mayB, memO_nat]
  rw [Bool.and_eq_true]
  refine ⟨by simpa using hio, List.all_eq_true.2 fun j hj => ?_⟩
  obtain ⟨y, hy, e⟩ := memO_iff.1 (h4 j (List.mem_range.1 hj))
  obtain ⟨p', hp', hy'⟩ := h3 y hy
  refine memO_iff.2 ⟨y, Classical.byContradiction fun hn => hmin p' hp' ⟨by omega, y, hy', hn⟩, e⟩
/-- What is picked round by round. -/
def ixN (n1 : Nat) (f : Nat → Int) (k L : Nat) : Nat := if k < n1 then (IntKind.u64.wrap (f k) % (L : Int)).toNat else 0
theorem ixN_lt {n1 : Nat} {f : Nat → Int} {k L : Nat} (h : 0 < L) : ixN n1 f k L < L := by
  unfold ixN; split
  · have := Int.emod_nonneg (IntKind.u64.wrap (f k)) (b := (L : Int)) (by omega)
    have := Int.emod_lt_of_pos (IntKind.u64.wrap (f k)) (b := (L : Int)) (by omega)
    omega
  · exact h
def pkO (N : Nat) (ln : Nat → Nat) (q : Nat → Nat → Int) (n1 : Nat) (f : Nat → Int) : Nat → List Nat
  | 0 => []
  | k + 1 => pkO N ln q n1 f k ++ [(rdL N ln q (doneF (pkO N ln q n1 f k)) N).getD (ixN n1 f k (rdL N ln q (doneF (pkO N ln q n1 f k)) N).length) 0]
theorem rd_mem {s : Nat → Bool} {i : Nat} : i ∈ rdL N ln q s N ↔ i < N ∧ rdB N ln q s i = true := by simp [rdL]
theorem pk_ok (h : (itO N ln q N).length = N) {n1 : Nat} {f : Nat → Int} : ∀ k, k ≤ N → (pkO N ln q n1 f k).Nodup ∧ (∀ i, i ∈ pkO N ln q n1 f k → i < N) ∧ (pkO N ln q n1 f k).length = k
  | 0, _ => ⟨List.nodup_nil, fun i hi => by simp [pkO] at hi, rfl⟩
  | k + 1, hk => by
    obtain ⟨h1, h2, h3⟩ := pk_ok h (n1 := n1) (f := f) k (by omega)
    obtain ⟨i0, hi0, hr0⟩ := ready_ex h _ h2 (by omega)
    have hpos : 0 < (rdL N ln q (doneF (pkO N ln q n1 f k)) N).length := List.length_pos_of_mem (rd_mem.2 ⟨hi0, hr0⟩)
    have hlt := @ixN_lt n1 f k _ hpos
    rw [pkO]
    generalize ixN n1 f k (rdL N ln q (doneF (pkO N ln q n1 f k)) N).length = x at *
    have hm : (rdL N ln q (doneF (pkO N ln q n1 f k)) N).getD x 0 ∈ rdL N ln q (doneF (pkO N ln q n1 f k)) N := by
      rw [List.getD_eq_getElem?_getD, List.getElem?_eq_getElem hlt]; exact List.getElem_mem hlt
    obtain ⟨h4, h5⟩ := rd_mem.1 hm
    generalize (rdL N ln q (doneF (pkO N ln q n1 f k)) N).getD x 0 = y at *
    have hy : y ∉ pkO N ln q n1 f k := by
      simp only [rdB, Bool.and_eq_true, Bool.not_eq_true', doneF] at h5
      intro hc
      have := h5.1
      simp at this; exact this hc
    refine ⟨List.nodup_append.2 ⟨h1, by simp, fun a ha b hb e => ?_⟩, fun j hj => ?_, by rw [List.length_append, h3]; rfl⟩
    · simp at hb; subst hb; subst e; exact hy ha
    · rcases List.mem_append.1 hj with hj | hj
      · exact h2 j hj
      · simp at hj; subst hj; exact h4
theorem pk_some (h : (itO N ln q N).length = N) {n1 : Nat} {f : Nat → Int} {k : Nat} (hk : k < N) : 0 < (rdL N ln q (doneF (pkO N ln q n1 f k)) N).length := by
  obtain ⟨h1, h2, h3⟩ := pk_ok h (n1 := n1) (f := f) k (by omega)
  obtain ⟨i0, hi0, hr0⟩ := ready_ex h _ h2 (by omega)
  exact List.length_pos_of_mem (rd_mem.2 ⟨hi0, hr0⟩)
theorem pk_end (h : (itO N ln q N).length = N) {n1 : Nat} {f : Nat → Int} : (rdL N ln q (doneF (pkO N ln q n1 f N)) N).length = 0 := by
  obtain ⟨h1, h2, h3⟩ := pk_ok h (n1 := n1) (f := f) N (by omega)
  refine Classical.byContradiction fun hc => ?_
  obtain ⟨x, hx⟩ := List.exists_mem_of_length_pos (show 0 < (rdL N ln q (doneF (pkO N ln q n1 f N)) N).length by omega)
  obtain ⟨h4, h5⟩ := rd_mem.1 hx
  have := full_mem h1 h2 h3 h4
  simp only [rdB, Bool.and_eq_true, Bool.not_eq_true', doneF] at h5
  have h6 := h5.1
  simp at h6; exact h6 this
/-- The places in the order, as the law reckons them. -/
def updI (f : Nat → Int) (j : Nat) (x : Int) : Nat → Int := fun i => if i = j then x else f i
theorem il_set {n : Nat} {f : Nat → Int} {j : Nat} {x : Int} : (il n f).set j (.int .i64 x) = il n (updI f j x) := by
  refine il_of (by rw [List.length_set, il_len]) fun i hi => ?_
  rw [List.getElem?_set]
  by_cases e : j = i
  · subst e; rw [if_pos rfl, if_pos (by rw [il_len]; exact hi)]; simp [updI]
  · rw [if_neg e, il_get hi]; simp only [updI]; rw [if_neg (fun h => e h.symm)]
def posF (o : List Nat) : Nat → Nat → Int
  | 0 => fun _ => 0
  | k + 1 => updI (posF o k) (o.getD k 0) (posF o k (o.getD k 0) + ((k : Int) + 1))
theorem pos_at {o : List Nat} (hn : o.Nodup) : ∀ k, k ≤ o.length → ∀ p, p < o.length → posF o k (o.getD p 0) = if p < k then (p : Int) + 1 else 0
  | 0, _, p, _ => by rw [if_neg (by omega)]; rfl
  | k + 1, hk, p, hp => by
    have h0 := pos_at hn k (by omega) p hp
    have h1 := pos_at hn k (by omega) k (by omega)
    rw [if_neg (by omega)] at h1
    have e1 : o.getD p 0 = o[p] := by rw [List.getD_eq_getElem?_getD, List.getElem?_eq_getElem hp]; rfl
    have e2 : o.getD k 0 = o[k] := by rw [List.getD_eq_getElem?_getD, List.getElem?_eq_getElem (by omega)]; rfl
    simp only [posF, updI]
    by_cases e : p = k
    · subst e; rw [if_pos rfl, if_pos (by omega), h1]; omega
    · rw [if_neg (fun hc => e ?_), h0]
      · by_cases hpk : p < k
        · rw [if_pos hpk, if_pos (by omega)]
        · rw [if_neg hpk, if_neg (by omega)]
      · rw [e1, e2] at hc
        have hpw := List.pairwise_iff_getElem.1 hn
        rcases Nat.lt_or_ge p k with h | h
        · exact absurd hc (hpw p k hp (by omega) h)
        · rcases Nat.lt_or_ge k p with h' | h'
          · exact absurd hc.symm (hpw k p (by omega) hp h')
          · omega
theorem pos_end (h : (itO N ln q N).length = N) {i : Nat} (hi : i < N) : ∃ p, p < N ∧ posF (itO N ln q N) N i = (p : Int) + 1 ∧ ∀ j, j < ln i → 0 ≤ q i j → q i j < (N : Int) → posF (itO N ln q N) N (q i j).toNat < (p : Int) + 1 := by
  have hok := it_ok N ln q N
  have hm := full_mem hok.1 hok.2 h hi
  obtain ⟨p, hp⟩ := List.getElem?_of_mem hm
  have hpl := (List.getElem?_eq_some_iff.1 hp).1
  have hat := fun p' (hp' : p' < N) => pos_at hok.1 N (by omega) p' (by omega)
  have hg : ∀ {p' i' : Nat}, (itO N ln q N)[p']? = some i' → (itO N ln q N).getD p' 0 = i' := fun e => by rw [List.getD_eq_getElem?_getD, e]; rfl
  refine ⟨p, by omega, ?_, fun j hj h0 h1 => ?_⟩
  · have := hat p (by omega); rw [hg hp, if_pos (by omega)] at this; exact this
  · obtain ⟨i', _, h2, h3, h4⟩ := it_at h p (by omega)
    rw [hp] at h2; injection h2 with h2; subst h2
    obtain ⟨y, hy, e⟩ := memO_iff.1 (h4 j hj)
    obtain ⟨p', hp', hy'⟩ := h3 y hy
    have := hat p' (by omega)
    rw [hg hy', if_pos (by omega)] at this
    rw [← e, Int.toNat_natCast, this]; omega
end
end Go.Proofs.Ytppolbilohkjmaa
