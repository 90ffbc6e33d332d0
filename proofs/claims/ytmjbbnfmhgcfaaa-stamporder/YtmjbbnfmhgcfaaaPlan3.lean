/- Walks and facts of this seat's program over abstract states, printed by a program of mine; no conditions but those that each theorem names. -/
import Derived.Test.YtmjbbnfmhgcfaaaPlan2
set_option linter.unusedSimpArgs false
set_option linter.unusedVariables false
set_option maxRecDepth 100000
set_option maxHeartbeats 4000000
namespace Go.Proofs.Ytmjbbnfmhgcfaaa
open Go Go.Eng

theorem il_snoc (o : List Nat) (i : Nat) : il o.length (oF o) ++ [.int .i64 (i : Int)] = il (o.length + 1) (oF (o ++ [i])) := by
  refine il_of (by rw [List.length_append, il_len]; rfl) fun j hj => ?_
  rcases Nat.lt_or_ge j o.length with h | h
  · rw [List.getElem?_append_left (by rw [il_len]; exact h), il_get h]
    simp only [oF, List.getD_eq_getElem?_getD, List.getElem?_append_left h]
  · have e : j = o.length := by omega
    subst e
    rw [List.getElem?_append_right (by rw [il_len]; omega), il_len, Nat.sub_self]
    simp [oF, List.getD_eq_getElem?_getD]
theorem done_snoc (o : List Nat) (i N : Nat) : bl N (updB (doneF o) i true) = bl N (doneF (o ++ [i])) := by
  refine bl_of (bl_len _ _) fun j hj => ?_
  rw [bl_get hj]
  simp only [updB, doneF]
  by_cases e : j = i
  · subst e; simp
  · rw [if_neg e]; simp [e]
theorem bl_zeros (z : Value) (N : Nat) (hz : z = .bool false) : zeros z N = bl N (doneF []) := by
  refine bl_of (by simp [zeros]) fun i hi => ?_
  subst hz
  simp [zeros, hi, doneF, Value.cells, cellOf, Nat.mod_one]
theorem it_next {N : Nat} {ln : Nat → Nat} {q : Nat → Nat → Int} {k i : Nat} (h : nextO N ln q (itO N ln q k) = some i) : itO N ln q (k + 1) = itO N ln q k ++ [i] := by rw [itO, h]
theorem order_c {vp : Nat} (rp N : Nat) (ln : Nat → Nat) (q : Nat → Nat → Int) (m : AMem) (hp : RowsAt m rp vp N ln q) (hl : ∀ i, i < N → ln i ≤ 1048576) (hN : N ≤ 1048576) : Ctr Try.prog 21 [.one (.sl rp vp 0 N)] m (.one (.sl m.length 0 0 (itO N ln q N).length)) (m ++ [⟨.grow, 3, 0, 1, il (itO N ln q N).length (oF (itO N ln q N))⟩]) := by
  refine Ctr.enter Try.func21 rfl (by decide) (rs := [.tmp 2]) (nt := 34) rfl rfl fun hwf Q hQ => ?_
  obtain ⟨k0, ez, rr, vv, hb, hrows⟩ := hp.hb
  have hr := get_lt hb
  have hlt0 : ∀ k, ¬ m.length + k < m.length := fun k => by omega
  have n1 : (0 : Int) ≤ (N : Int) := by omega
  have n2 : (N : Int) ≤ 281474976710656 := by omega
  have hz := bl_zeros (.bool false) N rfl
  simp only [push_cast, simprocAttr] at hz
  refine AW.seq_k fun K hK => ?_
  refine AW.region (by decide) ?_
  simp only [push_cast, simprocAttr, hb, lk_old hb, n1, n2, hz, Int.one_mul, Nat.le_refl, Int.le_refl]
  refine Thn_n ?_
  refine hK _ _ ?_
  clear hK K
  refine AW.scopeI 0 rfl (fun k => k ≤ N ∧ (itO N ln q k).length = k) (fun k => [(0, .one (.sl rp vp 0 N)), (3, .one (.sl (m.length + 1) k 0 k)), (4, .one (.sl m.length 0 0 N))]) (fun k => m ++ [⟨.grow, 4, 0, 1, bl N (doneF (itO N ln q k))⟩, ⟨.grow, 3, k, 1, il k (oF (itO N ln q k))⟩]) (fun k => N - k) (fun k hi2 => ?_) (fun hpass J0 hJ0 => ?_)
  · obtain ⟨hk, hkl⟩ := hi2
    try simp only [push_cast, simprocAttr, hb, lk_old hb, n1, n2, hz, Int.one_mul, Nat.le_refl, Int.le_refl]
    refine AW.seq_k fun K hK => ?_
    refine AW.seq_k fun K hK => ?_
    refine AW.region (by decide) ?_
    simp only [push_cast, simprocAttr, hb, lk_old hb, n1, n2, hz, Int.one_mul, Nat.le_refl, Int.le_refl]
    refine Thn_n ?_
    refine hK _ _ ?_
    clear hK K
    refine AW.block ?_
    -- VARYING, NOT GIVEN: [3]
    refine AW.loopK [0, 3, 4, 10] (fun i => i ≤ N ∧ ∀ j, j < i → mayB ln q (itO N ln q k) j = false) (fun i => [(11, .one (.int .i64 (i : Int)))]) (fun i => []) (fun i => N - i) 0 ⟨by omega, fun j hj => by omega⟩ ?_ ?_ fun i hi5 => ?_
    · first | rfl | (simp only [Keeps, Tm.get_cons, Nat.reduceEqDiff, ↓reduceIte, if_true, if_false, ite_true, ite_false, true_and, and_true, and_self, reduceCtorEq] <;> rfl)
    · first | rfl | (simp only [setAll, push_cast, simprocAttr, hb, lk_old hb, n1, n2, hz, Int.one_mul, Nat.le_refl, Int.le_refl] <;> rfl)
    obtain ⟨hiN, hall⟩ := hi5
    try simp only [keepL, setAll, push_cast, simprocAttr, hb, lk_old hb, n1, n2, hz, Int.one_mul, Nat.le_refl, Int.le_refl]
    refine AW.seq_k fun K hK => ?_
    refine AW.region (by decide) ?_
    simp only [push_cast, simprocAttr, hb, lk_old hb, n1, n2, hz, Int.one_mul, Nat.le_refl, Int.le_refl]
    refine Thn_n ?_
    refine hK _ _ ?_
    clear hK K
    refine AW.seq_k fun K hK => ?_
    refine AW.cond rfl (fun h12 => ?_) (fun h12 => ?_)
    · have hlt : i < N := by have := of_decide_eq_true h12; omega
      have c1 : (0 : Int) ≤ (i : Int) := by omega
      have c2 : (i : Int) < (N : Int) := by omega
      have gd := bl_get (f := doneF (itO N ln q k)) hlt
      have gl := bl_len N (doneF (itO N ln q k))
      have gi := il_len k (oF (itO N ln q k))
      have hfm := free_may (ln := ln) (q := q) (it_ok N ln q k).2 i
      have q1 : k + 1 ≤ 140737488355328 := by omega
      have q2 : (k + 1) * 8 ≤ 140737488355328 := by omega
      have q3 : i + 1 ≤ N := by omega
      rcases chain2 (doneF (itO N ln q k) i = false) (freeB N ln q (doneF (itO N ln q k)) i = true) with ⟨s1, s2⟩ | ⟨s1, s2⟩ | ⟨s1, s2⟩
      · refine AW.skip ?_
        refine Thn_n ?_
        refine hK _ _ ?_
        clear hK K
        refine AW.seq_k fun K hK => ?_
        refine AW.block ?_
        refine AW.seq_k fun K hK => ?_
        refine AW.region (by decide) ?_
        simp only [push_cast, simprocAttr, hb, lk_old hb, n1, n2, hz, Int.one_mul, Nat.le_refl, Int.le_refl, c1, c2, gd, gl, gi, q1, q2, q3, s1, s2]
        refine Thn_n ?_
        refine hK _ _ ?_
        clear hK K
        refine AW.seq_k fun K hK => ?_
        refine AW.region (by decide) ?_
        simp only [push_cast, simprocAttr, hb, lk_old hb, n1, n2, hz, Int.one_mul, Nat.le_refl, Int.le_refl, c1, c2, gd, gl, gi, q1, q2, q3, s1, s2]
        try (refine CThen.by (free_c rp N ln q _ (hp.mono _) (fun i hi => by have := hl i hi; omega) m.length 0 (doneF (itO N ln q k)) ⟨.grow, 1, by simp only [push_cast, simprocAttr]⟩ i hlt) ?_; simp only [push_cast, simprocAttr, hb, lk_old hb, n1, n2, hz, Int.one_mul, Nat.le_refl, Int.le_refl, c1, c2, gd, gl, gi, q1, q2, q3, s1, s2])
        refine Thn_n ?_
        refine hK _ _ ?_
        clear hK K
        refine AW.cond_t rfl ?_
        refine AW.seq_k fun K hK => ?_
        refine AW.region (by decide) ?_
        rw [s1, s2] at hfm
        have hnx := next_some hlt hfm.symm hall
        have hit := it_next hnx
        have hk2 : (itO N ln q (k + 1)).length = k + 1 := by rw [hit, List.length_append, hkl]; rfl
        have hk1 : k + 1 ≤ N := by rw [← hk2]; exact it_len N ln q (k + 1)
        have hst1 : (bl N (doneF (itO N ln q k))).set i (.bool true) = bl N (doneF (itO N ln q k ++ [i])) := by rw [bl_set, done_snoc]
        have hst2 : il k (oF (itO N ln q k)) ++ [.int .i64 (i : Int)] = il (k + 1) (oF (itO N ln q k ++ [i])) := by
          have := il_snoc (itO N ln q k) i
          rwa [hkl] at this
        simp only [push_cast, simprocAttr, hb, lk_old hb, n1, n2, hz, Int.one_mul, Nat.le_refl, Int.le_refl, c1, c2, gd, gl, gi, q1, q2, q3, s1, s2]
        refine Thn_n ?_
        refine hK _ _ ?_
        clear hK K
        refine AW.seq_k fun K hK => ?_
        refine AW.region (by decide) ?_
        simp only [push_cast, simprocAttr, hb, lk_old hb, n1, n2, hz, Int.one_mul, Nat.le_refl, Int.le_refl, c1, c2, gd, gl, gi, q1, q2, q3, s1, s2]
        refine Thn_n ?_
        refine hK _ _ ?_
        clear hK K
        refine AW.goto ?_
        refine InB_g ?_
        refine Thn_g ?_
        clear hK K
        refine Thn_g ?_
        refine InB_g ?_
        refine Thn_g ?_
        clear hK K
        refine Jmp_g ?_
        first | refine ⟨k + 1, ⟨hk1, hk2⟩, by omega, ?_⟩ | refine ⟨k + 1, ⟨hk1, hk2⟩, by omega, ?_, by simp⟩
        try simp only [keepL, setAll, push_cast, simprocAttr, hb, lk_old hb, n1, n2, hz, Int.one_mul, Nat.le_refl, Int.le_refl, c1, c2, gd, gl, gi, q1, q2, q3, s1, s2, hit, hst1, hst2]
        exact Weak.to (extra := [_]) (by simp only [Keeps, Tm.get_cons, Nat.reduceEqDiff, ↓reduceIte, if_true, if_false, ite_true, ite_false, true_and, and_true, and_self, reduceCtorEq, hit, hst1, hst2]) (by first | rfl | (simp only [List.append_assoc, List.cons_append, List.nil_append]; rfl)) (by first | rfl | (simp [AV.below, CV.below, bl_below, il_below]; done) | (simp [AV.below, CV.below, bl_below, il_below]; omega)) (by
          first | exact hwf | refine MWf.app (hwf.grow (by simp)) ?_
          repeat (first | exact MWf_nil | (refine MWf_cons ?_ ?_; · first | rfl | (simp [CV.below, bl_below, il_below]; done) | (simp [CV.below, bl_below, il_below]; omega))))
      all_goals (
      try simp only [Bool.not_eq_true, Bool.not_eq_false] at s1 s2
      have hmf : mayB ln q (itO N ln q k) i = false := by (rw [← hfm]; simp [s1, s2])
      have hnx2 : ∀ j, j < i + 1 → mayB ln q (itO N ln q k) j = false := fun j hj => by
        rcases Nat.lt_or_ge j i with h | h
        · exact hall j h
        · rw [show j = i by omega]; exact hmf
      refine AW.skip ?_
      refine Thn_n ?_
      refine hK _ _ ?_
      clear hK K
      refine AW.seq_k fun K hK => ?_
      refine AW.block ?_
      refine AW.seq_k fun K hK => ?_
      refine AW.region (by decide) ?_
      simp only [push_cast, simprocAttr, hb, lk_old hb, n1, n2, hz, Int.one_mul, Nat.le_refl, Int.le_refl, c1, c2, gd, gl, gi, q1, q2, q3, s1, s2]
      refine Thn_n ?_
      refine hK _ _ ?_
      clear hK K
      refine AW.seq_k fun K hK => ?_
      refine AW.region (by decide) ?_
      simp only [push_cast, simprocAttr, hb, lk_old hb, n1, n2, hz, Int.one_mul, Nat.le_refl, Int.le_refl, c1, c2, gd, gl, gi, q1, q2, q3, s1, s2]
      try (refine CThen.by (free_c rp N ln q _ (hp.mono _) (fun i hi => by have := hl i hi; omega) m.length 0 (doneF (itO N ln q k)) ⟨.grow, 1, by simp only [push_cast, simprocAttr]⟩ i hlt) ?_; simp only [push_cast, simprocAttr, hb, lk_old hb, n1, n2, hz, Int.one_mul, Nat.le_refl, Int.le_refl, c1, c2, gd, gl, gi, q1, q2, q3, s1, s2])
      refine Thn_n ?_
      refine hK _ _ ?_
      clear hK K
      refine AW.cond_f rfl ?_
      refine AW.skip ?_
      refine InB_n ?_
      refine Thn_n ?_
      refine hK _ _ ?_
      clear hK K
      refine AW.region (by decide) ?_
      simp only [push_cast, simprocAttr, hb, lk_old hb, n1, n2, hz, Int.one_mul, Nat.le_refl, Int.le_refl, c1, c2, gd, gl, gi, q1, q2, q3, s1, s2]
      refine Thn_n ?_
      have hwi : IntKind.i64.wrap ((i:Int)+1) = (i:Int)+1 := by rw [IntKind.wrap_i64]; omega
      refine ⟨i + 1, ⟨by omega, hnx2⟩, by omega, ?_⟩
      try simp only [keepL, setAll, push_cast, simprocAttr, hb, lk_old hb, n1, n2, hz, Int.one_mul, Nat.le_refl, Int.le_refl, c1, c2, gd, gl, gi, q1, q2, q3, s1, s2, hwi]
      exact Weak.same (by simp only [Keeps, Tm.get_cons, Nat.reduceEqDiff, ↓reduceIte, if_true, if_false, ite_true, ite_false, true_and, and_true, and_self, reduceCtorEq, hwi]) (by first | rfl | simp only [Keeps, Tm.get_cons, Nat.reduceEqDiff, ↓reduceIte, if_true, if_false, ite_true, ite_false, true_and, and_true, and_self, reduceCtorEq, hwi])
      )
    · have hin : N = i := by have := of_decide_eq_false h12; omega
      have hE : itO N ln q N = itO N ln q k := by
        have h1 := it_stop (next_none fun j hj => hall j (by omega)) (N - k)
        rwa [show k + (N - k) = N by omega] at h1
      refine AW.exit ?_
      refine Thn_e ?_
      clear hK K
      refine Thn_e ?_
      refine InB_here ?_
      refine Thn_n ?_
      refine hK _ _ ?_
      clear hK K
      refine AW.seq_k fun K hK => ?_
      refine AW.region (by decide) ?_
      simp only [push_cast, simprocAttr, hb, lk_old hb, n1, n2, hz, Int.one_mul, Nat.le_refl, Int.le_refl]
      refine Thn_n ?_
      refine hK _ _ ?_
      clear hK K
      refine AW.ret ?_
      refine Jmp_r ?_
      refine hQ _ _ _ ?_
      refine RetP.pick [(m.length + 1, k)] (Or.inr rfl) ?_ ?_ ?_ hwf ?_
      · simp only [resA, resOne, resTv, AV.tv, push_cast, simprocAttr]
        simp [renV, renT, renL, renC, renIdx, hlt0, hE, hkl]
      · simp only [picks, hE, hkl, push_cast, simprocAttr]
      · simp [distinctFrom]
      · exact MWf_one (il_below _ _ _)
      
  iterate 2
    refine AW.seq_k fun K hK => ?_
    refine AW.region (by decide) ?_
    simp only [push_cast, simprocAttr, hb, lk_old hb, n1, n2, hz, Int.one_mul, Nat.le_refl, Int.le_refl]
    refine Thn_n ?_
    refine hK _ _ ?_
    clear hK K
  refine AW.nilTm 3 1 3 rfl ?_
  try simp only [push_cast, simprocAttr]
  refine AW.fallI hpass hJ0 (0) ⟨by omega, rfl⟩ (by first | exact Nat.le_refl _ | (simp; done) | (simp; omega)) (by first | exact Nat.le_refl _ | (simp; done) | (simp; omega)) ?_
  try simp only [keepL, setAll, push_cast, simprocAttr, hb, lk_old hb, n1, n2, hz, Int.one_mul, Nat.le_refl, Int.le_refl, itO, il]
  exact Weak.same (by simp only [Keeps, Tm.get_cons, Nat.reduceEqDiff, ↓reduceIte, if_true, if_false, ite_true, ite_false, true_and, and_true, and_self, reduceCtorEq, itO, il]) (by first | rfl | simp only [Keeps, Tm.get_cons, Nat.reduceEqDiff, ↓reduceIte, if_true, if_false, ite_true, ite_false, true_and, and_true, and_self, reduceCtorEq, itO, il])
end Go.Proofs.Ytmjbbnfmhgcfaaa
