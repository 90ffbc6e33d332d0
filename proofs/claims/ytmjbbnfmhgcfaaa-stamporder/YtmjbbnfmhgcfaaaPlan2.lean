/- Walks and facts of this seat's program over abstract states, printed by a program of mine; no conditions but those that each theorem names. -/
import Derived.Test.YtmjbbnfmhgcfaaaPlan1
set_option linter.unusedSimpArgs false
set_option linter.unusedVariables false
set_option maxRecDepth 100000
set_option maxHeartbeats 4000000
namespace Go.Proofs.Ytmjbbnfmhgcfaaa
open Go Go.Eng

/-- May a step be done: of its needs, none is no step, or wasn't done. -/
def needB (N : Nat) (s : Nat → Bool) (x : Int) : Bool := decide ((N : Int) ≤ x) || !hasB N s x
def freeB (N : Nat) (ln : Nat → Nat) (q : Nat → Nat → Int) (s : Nat → Bool) (i : Nat) : Bool := !anyL (ln i) fun j => needB N s (q i j)
theorem free1_t {vp : Nat} (r N rd vd bp bd : Nat) (s : Nat → Bool) (x : Int) (m : AMem) (hbp : m[bp]? = some ⟨.fix, 34, 0, 0, [.sl r vp 0 N]⟩) (hbd : m[bd]? = some ⟨.fix, 71, 0, 0, [.sl rd vd 0 N]⟩) (hd : BoolsAt m rd vd N s) (h : (N : Int) ≤ x) : Ctr Try.prog 38 [.one (.int .i64 x), .one (.ptr bp 0 0), .one (.ptr bd 0 0)] m (.one (.bool (needB N s x))) m := by
  refine Ctr.enter Try.func38 rfl (by decide) (rs := [.tmp 4]) (nt := 15) rfl rfl fun hwf Q hQ => ?_
  iterate 2
    refine AW.seq_k fun K hK => ?_
    refine AW.region (by decide) ?_
    simp only [push_cast, simprocAttr, hbp, hbd, h]
    refine Thn_n ?_
    refine hK _ _ ?_
    clear hK K
  refine AW.ret ?_
  refine hQ _ _ _ ?_
  first | refine RetP.drop0 (Or.inr rfl) ?_ ?_ hwf | refine RetP.drop (Or.inr rfl) ?_ ?_ hwf
  · simp only [resA, resOne, resTv, AV.tv, push_cast, simprocAttr, hbp, hbd, h, needB]
  · rfl
theorem free1_f {vp : Nat} (r N rd vd bp bd : Nat) (s : Nat → Bool) (x : Int) (m : AMem) (hbp : m[bp]? = some ⟨.fix, 34, 0, 0, [.sl r vp 0 N]⟩) (hbd : m[bd]? = some ⟨.fix, 71, 0, 0, [.sl rd vd 0 N]⟩) (hd : BoolsAt m rd vd N s) (h : ¬ (N : Int) ≤ x) : Ctr Try.prog 38 [.one (.int .i64 x), .one (.ptr bp 0 0), .one (.ptr bd 0 0)] m (.one (.bool (needB N s x))) m := by
  refine Ctr.enter Try.func38 rfl (by decide) (rs := [.tmp 4]) (nt := 15) rfl rfl fun hwf Q hQ => ?_
  refine AW.seq_k fun K hK => ?_
  refine AW.region (by decide) ?_
  simp only [push_cast, simprocAttr, hbp, hbd, h]
  refine Thn_n ?_
  refine hK _ _ ?_
  clear hK K
  refine AW.seq_k fun K hK => ?_
  refine AW.region (by decide) ?_
  simp only [push_cast, simprocAttr, hbp, hbd, h]
  refine CThen.by (has_c rd vd N s x _ hd) ?_
  simp only [push_cast, simprocAttr, hbp, hbd, h]
  refine Thn_n ?_
  refine hK _ _ ?_
  clear hK K
  refine AW.ret ?_
  refine hQ _ _ _ ?_
  first | refine RetP.drop0 (Or.inr rfl) ?_ ?_ hwf | refine RetP.drop (Or.inr rfl) ?_ ?_ hwf
  · simp only [resA, resOne, resTv, AV.tv, push_cast, simprocAttr, hbp, hbd, h, needB]
  · rfl
theorem free1_c {vp : Nat} (r N rd vd bp bd : Nat) (s : Nat → Bool) (x : Int) (m : AMem) (hbp : m[bp]? = some ⟨.fix, 34, 0, 0, [.sl r vp 0 N]⟩) (hbd : m[bd]? = some ⟨.fix, 71, 0, 0, [.sl rd vd 0 N]⟩) (hd : BoolsAt m rd vd N s) : Ctr Try.prog 38 [.one (.int .i64 x), .one (.ptr bp 0 0), .one (.ptr bd 0 0)] m (.one (.bool (needB N s x))) m := by
  by_cases h : (N : Int) ≤ x
  · exact free1_t r N rd vd bp bd s x m hbp hbd hd h
  · exact free1_f r N rd vd bp bd s x m hbp hbd hd h
theorem free_c {vp : Nat} (rp N : Nat) (ln : Nat → Nat) (q : Nat → Nat → Int) (m : AMem) (hp : RowsAt m rp vp N ln q) (hl : ∀ i, i < N → ln i ≤ 9000000000000) (rd vd : Nat) (s : Nat → Bool) (hd : BoolsAt m rd vd N s) (i : Nat) (hi : i < N) : Ctr Try.prog 30 [.one (.sl rp vp 0 N), .one (.sl rd vd 0 N), .one (.int .i64 (i : Int))] m (.one (.bool (freeB N ln q s i))) m := by
  refine Ctr.enter Try.func30 rfl (by decide) (rs := [.tmp 6]) (nt := 14) rfl rfl fun hwf Q hQ => ?_
  obtain ⟨k0, ez, rr, vv, hb, hrows⟩ := hp.hb
  have hr := get_lt hb
  have hrow := hrows i hi
  have g := rl_get (r := rr) (vv := vv) (ln := ln) hi
  have c1 : (0 : Int) ≤ (i : Int) := by omega
  have c2 : (i : Int) < (N : Int) := by omega
  refine AW.seq_k fun K hK => ?_
  refine AW.region (by decide) ?_
  simp only [push_cast, simprocAttr, hb, lk_old hb, g, c1, c2]
  refine Thn_n ?_
  refine hK _ _ ?_
  clear hK K
  refine AW.seq_k fun K hK => ?_
  refine AW.region (by decide) ?_
  simp only [push_cast, simprocAttr, hb, lk_old hb, g, c1, c2]
  refine CThen.by (containsF_c _ _ _ (q i) _ _ (fun j => needB N s (q i j)) _ (hrow.mono _) (hl i hi) (fun j hj => by simp only [capsAV, List.map_cons, List.map_nil, List.cons_append, List.nil_append, List.append_assoc]; exact free1_c (vp := vp) rp N rd vd _ _ s (q i j) _ (by simp only [push_cast, simprocAttr]) (by simp only [push_cast, simprocAttr]) (hd.mono _))) ?_
  simp only [push_cast, simprocAttr, hb, lk_old hb, g, c1, c2]
  refine Thn_n ?_
  refine hK _ _ ?_
  clear hK K
  refine AW.ret ?_
  refine hQ _ _ _ ?_
  first | refine RetP.drop0 (Or.inr rfl) ?_ ?_ hwf | refine RetP.drop (Or.inr rfl) ?_ ?_ hwf
  · simp only [resA, resOne, resTv, AV.tv, push_cast, simprocAttr, hb, lk_old hb, g, c1, c2, freeB]
  · rfl
/-- Is a number among these? -/
def memO (o : List Nat) (x : Int) : Bool := o.any fun y => (y : Int) == x
def mayB (ln : Nat → Nat) (q : Nat → Nat → Int) (o : List Nat) (i : Nat) : Bool := !memO o (i : Int) && (List.range (ln i)).all fun j => memO o (q i j)
def oF (o : List Nat) (j : Nat) : Int := ((o.getD j 0 : Nat) : Int)
theorem inL_mem (o : List Nat) (x : Int) : inL o.length (oF o) x = memO o x := by
  rw [Bool.eq_iff_iff, inL_iff]
  simp only [memO, List.any_eq_true, beq_iff_eq]
  constructor
  · rintro ⟨i, hi, e⟩
    exact ⟨o[i], List.getElem_mem hi, by rw [← e, oF, List.getD_eq_getElem?_getD, List.getElem?_eq_getElem hi]; rfl⟩
  · rintro ⟨y, hy, e⟩
    obtain ⟨i, hi, rfl⟩ := List.getElem_of_mem hy
    exact ⟨i, hi, by rw [← e, oF, List.getD_eq_getElem?_getD, List.getElem?_eq_getElem hi]; rfl⟩
-- left out: theorem in_o (ro vo 
-- left out: may_in
-- left out: may_n
-- left out: may_y
-- left out: theorem may_c {vp 
/-- The next step, and the order. -/
def nextO (N : Nat) (ln : Nat → Nat) (q : Nat → Nat → Int) (o : List Nat) : Option Nat := (List.range N).find? fun i => mayB ln q o i
def itO (N : Nat) (ln : Nat → Nat) (q : Nat → Nat → Int) : Nat → List Nat
  | 0 => []
  | k + 1 => match nextO N ln q (itO N ln q k) with
    | some i => itO N ln q k ++ [i]
    | none => itO N ln q k
theorem next_some {N : Nat} {ln : Nat → Nat} {q : Nat → Nat → Int} {o : List Nat} {i : Nat} (h1 : i < N) (h2 : mayB ln q o i = true) (h3 : ∀ j, j < i → mayB ln q o j = false) : nextO N ln q o = some i := by
  unfold nextO
  rw [List.find?_range_eq_some]
  exact ⟨h2, List.mem_range.2 h1, fun j hj => by rw [h3 j hj]; rfl⟩
theorem next_none {N : Nat} {ln : Nat → Nat} {q : Nat → Nat → Int} {o : List Nat} (h : ∀ j, j < N → mayB ln q o j = false) : nextO N ln q o = none := by
  unfold nextO
  rw [List.find?_eq_none]
  intro j hj
  rw [h j (List.mem_range.1 hj)]; simp
theorem next_lt {N : Nat} {ln : Nat → Nat} {q : Nat → Nat → Int} {o : List Nat} {i : Nat} (h : nextO N ln q o = some i) : i < N ∧ mayB ln q o i = true ∧ i ∉ o := by
  have h1 := List.mem_of_find?_eq_some h
  have h2 := List.find?_some h
  refine ⟨List.mem_range.1 h1, h2, fun hm => ?_⟩
  simp only [mayB, Bool.and_eq_true, Bool.not_eq_true'] at h2
  have : memO o (i : Int) = true := by simp only [memO, List.any_eq_true, beq_iff_eq]; exact ⟨i, hm, rfl⟩
  rw [this] at h2; cases h2.1
theorem it_ok (N : Nat) (ln : Nat → Nat) (q : Nat → Nat → Int) : ∀ k, (itO N ln q k).Nodup ∧ ∀ i, i ∈ itO N ln q k → i < N
  | 0 => ⟨List.nodup_nil, fun i hi => by simp [itO] at hi⟩
  | k + 1 => by
    obtain ⟨h1, h2⟩ := it_ok N ln q k
    simp only [itO]
    split
    · rename_i i hi
      obtain ⟨h3, _, h4⟩ := next_lt hi
      refine ⟨List.nodup_append.2 ⟨h1, by simp, fun a ha b hb e => ?_⟩, fun j hj => ?_⟩
      · simp at hb; subst hb; subst e; exact h4 ha
      · rcases List.mem_append.1 hj with h | h
        · exact h2 j h
        · simp at h; omega
    · exact ⟨h1, h2⟩
theorem nodup_len : ∀ (N : Nat) (o : List Nat), o.Nodup → (∀ i, i ∈ o → i < N) → o.length ≤ N
  | 0, o, _, h => by
    cases o with
    | nil => simp
    | cons x o => exact absurd (h x List.mem_cons_self) (by omega)
  | N + 1, o, hn, h => by
    have h1 := nodup_len N (o.erase N) (hn.erase N) fun i hi => by
      have := h i (List.mem_of_mem_erase hi)
      have : i ≠ N := fun e => by subst e; exact (List.Nodup.not_mem_erase hn) hi
      omega
    have := List.length_erase (a := N) (l := o)
    split at this <;> omega
theorem it_len (N : Nat) (ln : Nat → Nat) (q : Nat → Nat → Int) (k : Nat) : (itO N ln q k).length ≤ N := nodup_len N _ (it_ok N ln q k).1 (it_ok N ln q k).2
theorem it_stop {N : Nat} {ln : Nat → Nat} {q : Nat → Nat → Int} {k : Nat} (h : nextO N ln q (itO N ln q k) = none) : ∀ j, itO N ln q (k + j) = itO N ln q k
  | 0 => rfl
  | j + 1 => by
    rw [show k + (j + 1) = (k + j) + 1 by omega, itO, it_stop h j, h]
theorem memO_nat (o : List Nat) (i : Nat) : memO o (i : Int) = o.contains i := by
  rw [Bool.eq_iff_iff]; simp only [memO, List.any_eq_true, beq_iff_eq, List.contains_iff_mem]
  constructor
  · rintro ⟨y, hy, e⟩; have : y = i := by omega
    subst this; exact hy
  · intro h; exact ⟨i, h, rfl⟩
def doneF (o : List Nat) : Nat → Bool := fun i => o.contains i
theorem free_may {N : Nat} {ln : Nat → Nat} {q : Nat → Nat → Int} {o : List Nat} (ho : ∀ i, i ∈ o → i < N) (i : Nat) : (!doneF o i && freeB N ln q (doneF o) i) = mayB ln q o i := by
  have hx : ∀ x : Int, (!needB N (doneF o) x) = memO o x := fun x => by
    by_cases h0 : 0 ≤ x
    · obtain ⟨y, rfl⟩ : ∃ y : Nat, x = (y : Int) := ⟨x.toNat, by omega⟩
      rw [memO_nat, needB, hasB, decide_eq_true h0, Int.toNat_natCast, doneF]
      by_cases hy : (y : Int) < (N : Int)
      · rw [decide_eq_true hy, decide_eq_false (by omega)]; simp
      · rw [decide_eq_false hy, decide_eq_true (show (N : Int) ≤ (y : Int) by omega)]
        cases hc : o.contains y
        · rfl
        · have := ho y (by simpa using hc); omega
    · rw [needB, hasB, decide_eq_false h0]
      have : memO o x = false := by
        cases hc : memO o x
        · rfl
        · simp only [memO, List.any_eq_true, beq_iff_eq] at hc
          obtain ⟨y, _, e⟩ := hc; omega
      rw [this]; simp
  rw [mayB, memO_nat, freeB, anyL]
  have e : (List.range (ln i)).all (fun j => memO o (q i j)) = !(List.range (ln i)).any fun j => needB N (doneF o) (q i j) := by
    rw [List.not_any_eq_all_not]
    congr 1; funext j; exact (hx _).symm
  rw [e]; rfl
end Go.Proofs.Ytmjbbnfmhgcfaaa
