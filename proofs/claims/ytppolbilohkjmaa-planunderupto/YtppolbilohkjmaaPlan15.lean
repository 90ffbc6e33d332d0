/- Walks and facts of this seat's program over abstract states, printed by a program of mine; no conditions but those that each theorem names. -/
import Derived.Test.YtppolbilohkjmaaPlan14
set_option linter.unusedSimpArgs false
set_option linter.unusedVariables false
set_option maxRecDepth 100000
set_option maxHeartbeats 4000000
namespace Go.Proofs.Ytppolbilohkjmaa
open Go Go.Eng

/-- Sweeps: a step's row marked; all steps once; so many rounds. -/
def mkS (q : Nat → Nat → Int) (i : Nat) (s : Nat → Bool) : Nat → Nat → Bool
  | 0 => s
  | j + 1 => updB (mkS q i s j) (nd q i j) true
def stepS (ln : Nat → Nat) (q : Nat → Nat → Int) (k : Nat) (s : Nat → Bool) : Nat → Bool := if s k then mkS q k s (ln k) else s
def swS (ln : Nat → Nat) (q : Nat → Nat → Int) (s : Nat → Bool) : Nat → Nat → Bool
  | 0 => s
  | k + 1 => stepS ln q k (swS ln q s k)
def rnS (N : Nat) (ln : Nat → Nat) (q : Nat → Nat → Int) (s : Nat → Bool) : Nat → Nat → Bool
  | 0 => s
  | r + 1 => swS ln q (rnS N ln q s r) N
theorem updB_up {s : Nat → Bool} {x y : Nat} (h : s x = true) : updB s y true x = true := by simp only [updB]; split <;> first | rfl | exact h
theorem mk_up {q : Nat → Nat → Int} {i : Nat} {s : Nat → Bool} {x : Nat} (h : s x = true) : ∀ j, mkS q i s j x = true
  | 0 => h
  | j + 1 => updB_up (mk_up h j)
theorem mk_has {q : Nat → Nat → Int} {i : Nat} {s : Nat → Bool} : ∀ {n j}, j < n → mkS q i s n (nd q i j) = true
  | n + 1, j, hj => by
    rw [mkS]
    rcases Nat.lt_or_ge j n with h | h
    · exact updB_up (mk_has h)
    · rw [show j = n by omega]; simp [updB]
theorem mk_of {q : Nat → Nat → Int} {i : Nat} {s : Nat → Bool} {x : Nat} : ∀ {n}, mkS q i s n x = true → s x = true ∨ ∃ j, j < n ∧ nd q i j = x
  | 0, h => .inl h
  | n + 1, h => by
    simp only [mkS, updB] at h
    split at h
    · rename_i e; exact .inr ⟨n, by omega, e.symm⟩
    · rcases mk_of h with h | ⟨j, hj, e⟩
      · exact .inl h
      · exact .inr ⟨j, by omega, e⟩
theorem mk_same {q : Nat → Nat → Int} {i : Nat} {s : Nat → Bool} : ∀ {n}, (∀ j, j < n → s (nd q i j) = true) → mkS q i s n = s
  | 0, _ => rfl
  | n + 1, h => by
    rw [mkS, mk_same fun j hj => h j (by omega)]
    funext x; simp only [updB]; split
    · rename_i e; rw [e, h n (by omega)]
    · rfl
theorem step_up {ln : Nat → Nat} {q : Nat → Nat → Int} {k : Nat} {s : Nat → Bool} {x : Nat} (h : s x = true) : stepS ln q k s x = true := by
  unfold stepS; split
  · exact mk_up h _
  · exact h
theorem sw_up {ln : Nat → Nat} {q : Nat → Nat → Int} {s : Nat → Bool} {x : Nat} {a : Nat} (h : swS ln q s a x = true) : ∀ d, swS ln q s (a + d) x = true
  | 0 => h
  | d + 1 => step_up (sw_up h d)
def okS (N : Nat) (ln : Nat → Nat) (q : Nat → Nat → Int) (i : Nat) (s : Nat → Bool) : Prop := ∀ x, s x = true → x < N ∧ RU ln q i x
def closS (N : Nat) (ln : Nat → Nat) (q : Nat → Nat → Int) (s : Nat → Bool) : Prop := ∀ x, x < N → s x = true → ∀ j, j < ln x → s (nd q x j) = true
theorem step_ok {N : Nat} {ln : Nat → Nat} {q : Nat → Nat → Int} {i k : Nat} {s : Nat → Bool} (hall : AllP N ln q) (hk : k < N) (h : okS N ln q i s) : okS N ln q i (stepS ln q k s) := by
  unfold stepS; split
  · rename_i hs
    intro x hx
    rcases mk_of hx with hx | ⟨j, hj, rfl⟩
    · exact h x hx
    · exact ⟨(all_nd hall hk hj).1, .step (h k hs).2 hj⟩
  · exact h
theorem sw_ok {N : Nat} {ln : Nat → Nat} {q : Nat → Nat → Int} {i : Nat} {s : Nat → Bool} (hall : AllP N ln q) (h : okS N ln q i s) : ∀ k, k ≤ N → okS N ln q i (swS ln q s k)
  | 0, _ => h
  | k + 1, hk => step_ok hall (by omega) (sw_ok hall h k (by omega))
theorem rn_ok {N : Nat} {ln : Nat → Nat} {q : Nat → Nat → Int} {i : Nat} {s : Nat → Bool} (hall : AllP N ln q) (h : okS N ln q i s) : ∀ r, okS N ln q i (rnS N ln q s r)
  | 0 => h
  | r + 1 => sw_ok hall (rn_ok hall h r) N (Nat.le_refl _)
theorem rn_up {N : Nat} {ln : Nat → Nat} {q : Nat → Nat → Int} {s : Nat → Bool} {x : Nat} (h : s x = true) : ∀ r, rnS N ln q s r x = true
  | 0 => h
  | r + 1 => by have := sw_up (ln := ln) (q := q) (a := 0) (s := rnS N ln q s r) (x := x) (rn_up h r) N; rw [Nat.zero_add] at this; exact this
theorem sw_same {N : Nat} {ln : Nat → Nat} {q : Nat → Nat → Int} {s : Nat → Bool} (h : closS N ln q s) : ∀ k, k ≤ N → swS ln q s k = s
  | 0, _ => rfl
  | k + 1, hk => by
    rw [swS, sw_same h k (by omega), stepS]
    split
    · rename_i hs; exact mk_same (h k (by omega) hs)
    · rfl
theorem unm_mono {s t : Nat → Bool} (h : ∀ x, s x = true → t x = true) : ∀ N, unm N t ≤ unm N s
  | 0 => Nat.le_refl _
  | N + 1 => by
    have ih := unm_mono h N
    simp only [unm, List.range_succ, List.filter_append, List.length_append] at ih ⊢
    have : ((List.filter (fun x => !t x) [N]).length) ≤ (List.filter (fun x => !s x) [N]).length := by
      simp only [List.filter_cons, List.filter_nil]
      cases hs : s N
      · cases t N <;> simp
      · rw [h N hs]; simp
    omega
theorem unm_lt {s t : Nat → Bool} (h : ∀ x, s x = true → t x = true) {y N : Nat} (hy : y < N) (h1 : s y = false) (h2 : t y = true) : unm N t < unm N s := by
  have e1 := unm_upd h1 N
  rw [if_pos hy] at e1
  have := unm_mono (s := updB s y true) (t := t) (fun x hx => by
    simp only [updB] at hx
    split at hx
    · rename_i e; rw [e]; exact h2
    · exact h x hx) N
  omega
theorem unm_0 {s : Nat → Bool} {N x : Nat} (h : unm N s = 0) (hx : x < N) : s x = true := by
  cases e : s x
  · exfalso
    have : x ∈ (List.range N).filter fun x => !s x := by simp [hx, e]
    rw [List.eq_nil_of_length_eq_zero h] at this
    cases this
  · rfl
theorem rn_clos {N : Nat} {ln : Nat → Nat} {q : Nat → Nat → Int} {s : Nat → Bool} (hall : AllP N ln q) : ∀ r, closS N ln q (rnS N ln q s r) ∨ unm N (rnS N ln q s r) + r ≤ N
  | 0 => .inr (by have := @unm_le N s; exact this)
  | r + 1 => by
    by_cases hc : closS N ln q (rnS N ln q s r)
    · left; rw [rnS, sw_same hc N (Nat.le_refl _)]; exact hc
    · rcases rn_clos hall r with h | h
      · exact absurd h hc
      · right
        unfold closS at hc
        simp only [Classical.not_forall, Bool.not_eq_true] at hc
        obtain ⟨x, hx, hsx, j, hj, hn⟩ := hc
        have h0 : ∀ y, rnS N ln q s r y = true → swS ln q (rnS N ln q s r) N y = true := fun y hy => by
          have := sw_up (ln := ln) (q := q) (a := 0) (s := rnS N ln q s r) (x := y) hy N
          rw [Nat.zero_add] at this; exact this
        have h1 : swS ln q (rnS N ln q s r) (x + 1) (nd q x j) = true := by
          have h3 := sw_up (ln := ln) (q := q) (a := 0) (s := rnS N ln q s r) (x := x) hsx x
          rw [Nat.zero_add] at h3
          rw [swS, stepS, if_pos h3]; exact mk_has hj
        have h2 := sw_up h1 (N - (x + 1))
        rw [show x + 1 + (N - (x + 1)) = N by omega] at h2
        have := unm_lt h0 (all_nd hall hx hj).1 hn h2
        rw [rnS]; omega
def s0S (ln : Nat → Nat) (q : Nat → Nat → Int) (i : Nat) : Nat → Bool := mkS q i (fun _ => false) (ln i)
theorem rn_closed {N : Nat} {ln : Nat → Nat} {q : Nat → Nat → Int} {i : Nat} (hall : AllP N ln q) (hi : i < N) : ClosedU N ln q i (rnS N ln q (s0S ln q i) N) := by
  have h0 : okS N ln q i (s0S ln q i) := fun x hx => by
    rcases mk_of hx with h | ⟨j, hj, rfl⟩
    · cases h
    · exact ⟨(all_nd hall hi hj).1, .base hj⟩
  have h1 := rn_ok hall h0 N
  have h2 : closS N ln q (rnS N ln q (s0S ln q i) N) := by
    rcases rn_clos (s := s0S ln q i) hall N with h | h
    · exact h
    · have e : unm N (rnS N ln q (s0S ln q i) N) = 0 := by omega
      exact fun x hx _ j hj => unm_0 e (all_nd hall hx hj).1
  exact ⟨h1, fun j hj => rn_up (mk_has hj) N, fun x hx j hj => h2 x (h1 x hx).1 hx j hj⟩
theorem rdones_c (rd N : Nat) (s : Nat → Bool) (m : AMem) (hd : BoolsAt m rd 0 N s) (hN : N ≤ 1048576) : Ctr Try.prog 26 [.one (.sl rd 0 0 N)] m (.one (.sl m.length 0 0 (flt s N).length)) (m ++ [⟨.grow, 3, 0, 1, il (flt s N).length (oF (flt s N))⟩]) := by
  refine Ctr.enter Try.func26 rfl (by decide) (rs := [.tmp 2]) (nt := 20) rfl rfl fun hwf Q hQ => ?_
  obtain ⟨k9, ez9, hb⟩ := hd.hb
  have hr := get_lt hb
  have hlt0 : ∀ k, ¬ m.length + k < m.length := fun k => by omega
  iterate 2
    refine AW.seq_k fun K hK => ?_
    refine AW.region (by decide) ?_
    simp only [push_cast, Nat.reduceAdd, Nat.reduceMul, Nat.reduceSub, Nat.reduceLeDiff, Nat.reduceLT, Nat.reduceEqDiff, Nat.reduceBEq, Nat.reduceBNe, Nat.reduceMod, Nat.reduceDiv, Int.reduceLE, Int.reduceLT, Int.reduceToNat, Int.reduceAdd, Int.reduceSub, Int.reduceMul, Int.reduceNeg, Int.reduceEq, Int.reduceBEq, Int.reduceBNe, ↓reduceIte, reduceCtorEq, String.reduceBNe, String.reduceEq, reduceDIte, Nat.reducePow, hb, lk_old hb]
    refine Thn_n ?_
    refine hK _ _ ?_
    clear hK K
  refine AW.seq_k fun K hK => ?_
  refine AW.seq_k fun K hK => ?_
  refine AW.region (by decide) ?_
  simp only [push_cast, Nat.reduceAdd, Nat.reduceMul, Nat.reduceSub, Nat.reduceLeDiff, Nat.reduceLT, Nat.reduceEqDiff, Nat.reduceBEq, Nat.reduceBNe, Nat.reduceMod, Nat.reduceDiv, Int.reduceLE, Int.reduceLT, Int.reduceToNat, Int.reduceAdd, Int.reduceSub, Int.reduceMul, Int.reduceNeg, Int.reduceEq, Int.reduceBEq, Int.reduceBNe, ↓reduceIte, reduceCtorEq, String.reduceBNe, String.reduceEq, reduceDIte, Nat.reducePow, hb, lk_old hb]
  refine Thn_n ?_
  refine hK _ _ ?_
  clear hK K
  refine AW.block ?_
  refine AW.nilTm 3 1 3 rfl ?_
  try simp only [push_cast, Nat.reduceAdd, Nat.reduceMul, Nat.reduceSub, Nat.reduceLeDiff, Nat.reduceLT, Nat.reduceEqDiff, Nat.reduceBEq, Nat.reduceBNe, Nat.reduceMod, Nat.reduceDiv, Int.reduceLE, Int.reduceLT, Int.reduceToNat, Int.reduceAdd, Int.reduceSub, Int.reduceMul, Int.reduceNeg, Int.reduceEq, Int.reduceBEq, Int.reduceBNe, ↓reduceIte, reduceCtorEq, String.reduceBNe, String.reduceEq, reduceDIte, Nat.reducePow, hb, lk_old hb]
  refine AW.loopK [0] (fun j => j ≤ N) (fun j => [(3, .one (.sl m.length (flt s j).length 0 (flt s j).length)), (4, .one (.int .i64 (j : Int)))]) (fun j => [(m.length, ⟨.grow, 3, (flt s j).length, 1, il (flt s j).length (oF (flt s j))⟩)]) (fun j => N - j) 0 (by omega) ?_ ?_ fun j hi5 => ?_
  · first | rfl | (simp only [Keeps, Tm.get_cons, Nat.reduceEqDiff, ↓reduceIte, if_true, if_false, ite_true, ite_false, true_and, and_true, and_self, reduceCtorEq, flt, List.range_zero, List.filter_nil, il, List.length_nil, Int.natCast_zero] <;> rfl)
  · first | rfl | (simp only [setAll, push_cast, Nat.reduceAdd, Nat.reduceMul, Nat.reduceSub, Nat.reduceLeDiff, Nat.reduceLT, Nat.reduceEqDiff, Nat.reduceBEq, Nat.reduceBNe, Nat.reduceMod, Nat.reduceDiv, Int.reduceLE, Int.reduceLT, Int.reduceToNat, Int.reduceAdd, Int.reduceSub, Int.reduceMul, Int.reduceNeg, Int.reduceEq, Int.reduceBEq, Int.reduceBNe, ↓reduceIte, reduceCtorEq, String.reduceBNe, String.reduceEq, reduceDIte, Nat.reducePow, hb, lk_old hb, flt, List.range_zero, List.filter_nil, il, List.length_nil, Int.natCast_zero] <;> rfl)
  try simp only [keepL, setAll, push_cast, Nat.reduceAdd, Nat.reduceMul, Nat.reduceSub, Nat.reduceLeDiff, Nat.reduceLT, Nat.reduceEqDiff, Nat.reduceBEq, Nat.reduceBNe, Nat.reduceMod, Nat.reduceDiv, Int.reduceLE, Int.reduceLT, Int.reduceToNat, Int.reduceAdd, Int.reduceSub, Int.reduceMul, Int.reduceNeg, Int.reduceEq, Int.reduceBEq, Int.reduceBNe, ↓reduceIte, reduceCtorEq, String.reduceBNe, String.reduceEq, reduceDIte, Nat.reducePow, hb, lk_old hb]
  refine AW.seq_k fun K hK => ?_
  refine AW.seq_k fun K hK => ?_
  refine AW.region (by decide) ?_
  simp only [push_cast, Nat.reduceAdd, Nat.reduceMul, Nat.reduceSub, Nat.reduceLeDiff, Nat.reduceLT, Nat.reduceEqDiff, Nat.reduceBEq, Nat.reduceBNe, Nat.reduceMod, Nat.reduceDiv, Int.reduceLE, Int.reduceLT, Int.reduceToNat, Int.reduceAdd, Int.reduceSub, Int.reduceMul, Int.reduceNeg, Int.reduceEq, Int.reduceBEq, Int.reduceBNe, ↓reduceIte, reduceCtorEq, String.reduceBNe, String.reduceEq, reduceDIte, Nat.reducePow, hb, lk_old hb]
  refine Thn_n ?_
  refine hK _ _ ?_
  clear hK K
  refine AW.cond rfl (fun h8 => ?_) (fun h8 => ?_)
  · have hlt : j < N := by have := of_decide_eq_true h8; omega
    have c1 : (0 : Int) ≤ (j : Int) := by omega
    have c2 : (j : Int) < (N : Int) := by omega
    have hol := @flt_len s j
    have gi := il_len (flt s j).length (oF (flt s j))
    have q1 : (flt s j).length + 1 ≤ 140737488355328 := by omega
    have q2 : ((flt s j).length + 1) * 8 ≤ 140737488355328 := by omega
    have gs := bl_get (f := s) hlt
    refine AW.skip ?_
    refine Thn_n ?_
    refine hK _ _ ?_
    clear hK K
    refine AW.seq_k fun K hK => ?_
    refine AW.block ?_
    refine AW.seq_k fun K hK => ?_
    refine AW.region (by decide) ?_
    simp only [push_cast, Nat.reduceAdd, Nat.reduceMul, Nat.reduceSub, Nat.reduceLeDiff, Nat.reduceLT, Nat.reduceEqDiff, Nat.reduceBEq, Nat.reduceBNe, Nat.reduceMod, Nat.reduceDiv, Int.reduceLE, Int.reduceLT, Int.reduceToNat, Int.reduceAdd, Int.reduceSub, Int.reduceMul, Int.reduceNeg, Int.reduceEq, Int.reduceBEq, Int.reduceBNe, ↓reduceIte, reduceCtorEq, String.reduceBNe, String.reduceEq, reduceDIte, Nat.reducePow, hb, lk_old hb, c1, c2, gi, q1, q2, gs]
    refine Thn_n ?_
    refine hK _ _ ?_
    clear hK K
    refine AW.cond rfl (fun h14 => ?_) (fun h14 => ?_)
    · have hit := flt_t (s := s) (k := j) (by simpa using h14)
      have hst2 := il_snoc (flt s j) j
      have hlen : ((flt s j) ++ [j]).length = (flt s j).length + 1 := by rw [List.length_append]; rfl
      refine AW.region (by decide) ?_
      simp only [push_cast, Nat.reduceAdd, Nat.reduceMul, Nat.reduceSub, Nat.reduceLeDiff, Nat.reduceLT, Nat.reduceEqDiff, Nat.reduceBEq, Nat.reduceBNe, Nat.reduceMod, Nat.reduceDiv, Int.reduceLE, Int.reduceLT, Int.reduceToNat, Int.reduceAdd, Int.reduceSub, Int.reduceMul, Int.reduceNeg, Int.reduceEq, Int.reduceBEq, Int.reduceBNe, ↓reduceIte, reduceCtorEq, String.reduceBNe, String.reduceEq, reduceDIte, Nat.reducePow, hb, lk_old hb, c1, c2, gi, q1, q2, gs]
      refine InB_n ?_
      refine Thn_n ?_
      refine hK _ _ ?_
      clear hK K
      refine AW.region (by decide) ?_
      simp only [push_cast, Nat.reduceAdd, Nat.reduceMul, Nat.reduceSub, Nat.reduceLeDiff, Nat.reduceLT, Nat.reduceEqDiff, Nat.reduceBEq, Nat.reduceBNe, Nat.reduceMod, Nat.reduceDiv, Int.reduceLE, Int.reduceLT, Int.reduceToNat, Int.reduceAdd, Int.reduceSub, Int.reduceMul, Int.reduceNeg, Int.reduceEq, Int.reduceBEq, Int.reduceBNe, ↓reduceIte, reduceCtorEq, String.reduceBNe, String.reduceEq, reduceDIte, Nat.reducePow, hb, lk_old hb, c1, c2, gi, q1, q2, gs]
      refine Thn_n ?_
      have hwi : IntKind.i64.wrap ((j:Int)+1) = (j:Int)+1 := by rw [IntKind.wrap_i64]; omega
      refine ⟨j + 1, by omega, by omega, ?_⟩
      try simp only [keepL, setAll, push_cast, Nat.reduceAdd, Nat.reduceMul, Nat.reduceSub, Nat.reduceLeDiff, Nat.reduceLT, Nat.reduceEqDiff, Nat.reduceBEq, Nat.reduceBNe, Nat.reduceMod, Nat.reduceDiv, Int.reduceLE, Int.reduceLT, Int.reduceToNat, Int.reduceAdd, Int.reduceSub, Int.reduceMul, Int.reduceNeg, Int.reduceEq, Int.reduceBEq, Int.reduceBNe, ↓reduceIte, reduceCtorEq, String.reduceBNe, String.reduceEq, reduceDIte, Nat.reducePow, hb, lk_old hb, c1, c2, gi, q1, q2, gs, hwi, hit, hst2, hlen]
      first
        | exact Weak.same (by simp only [Keeps, Tm.get_cons, Nat.reduceEqDiff, ↓reduceIte, if_true, if_false, ite_true, ite_false, true_and, and_true, and_self, reduceCtorEq, hwi, hit, hst2, hlen]) (by first | rfl | simp only [Keeps, Tm.get_cons, Nat.reduceEqDiff, ↓reduceIte, if_true, if_false, ite_true, ite_false, true_and, and_true, and_self, reduceCtorEq, hwi, hit, hst2, hlen])
        | exact Weak.to (extra := [_]) (by simp only [Keeps, Tm.get_cons, Nat.reduceEqDiff, ↓reduceIte, if_true, if_false, ite_true, ite_false, true_and, and_true, and_self, reduceCtorEq, hwi, hit, hst2, hlen]) (by first | rfl | (simp only [List.append_assoc, List.cons_append, List.nil_append]; rfl)) (by first | rfl | (simp [AV.below, CV.below, il_below, bl_below]; done) | (simp [AV.below, CV.below, il_below, bl_below]; omega)) (by
            first | exact hwf | refine MWf.app (hwf.grow (by simp)) ?_
            repeat (first | exact MWf_nil | (refine MWf_cons ?_ ?_; · first | rfl | (simp [CV.below, il_below, bl_below]; done) | (simp [CV.below, il_below, bl_below]; omega))))
    · have hit := flt_f (s := s) (k := j) (by simpa using h14)
      have hst2 : True := trivial
      have hlen : True := trivial
      refine AW.skip ?_
      refine InB_n ?_
      refine Thn_n ?_
      refine hK _ _ ?_
      clear hK K
      refine AW.region (by decide) ?_
      simp only [push_cast, Nat.reduceAdd, Nat.reduceMul, Nat.reduceSub, Nat.reduceLeDiff, Nat.reduceLT, Nat.reduceEqDiff, Nat.reduceBEq, Nat.reduceBNe, Nat.reduceMod, Nat.reduceDiv, Int.reduceLE, Int.reduceLT, Int.reduceToNat, Int.reduceAdd, Int.reduceSub, Int.reduceMul, Int.reduceNeg, Int.reduceEq, Int.reduceBEq, Int.reduceBNe, ↓reduceIte, reduceCtorEq, String.reduceBNe, String.reduceEq, reduceDIte, Nat.reducePow, hb, lk_old hb, c1, c2, gi, q1, q2, gs]
      refine Thn_n ?_
      have hwi : IntKind.i64.wrap ((j:Int)+1) = (j:Int)+1 := by rw [IntKind.wrap_i64]; omega
      refine ⟨j + 1, by omega, by omega, ?_⟩
      try simp only [keepL, setAll, push_cast, Nat.reduceAdd, Nat.reduceMul, Nat.reduceSub, Nat.reduceLeDiff, Nat.reduceLT, Nat.reduceEqDiff, Nat.reduceBEq, Nat.reduceBNe, Nat.reduceMod, Nat.reduceDiv, Int.reduceLE, Int.reduceLT, Int.reduceToNat, Int.reduceAdd, Int.reduceSub, Int.reduceMul, Int.reduceNeg, Int.reduceEq, Int.reduceBEq, Int.reduceBNe, ↓reduceIte, reduceCtorEq, String.reduceBNe, String.reduceEq, reduceDIte, Nat.reducePow, hb, lk_old hb, c1, c2, gi, q1, q2, gs, hwi, hit, hst2, hlen]
      first
        | exact Weak.same (by simp only [Keeps, Tm.get_cons, Nat.reduceEqDiff, ↓reduceIte, if_true, if_false, ite_true, ite_false, true_and, and_true, and_self, reduceCtorEq, hwi, hit, hst2, hlen]) (by first | rfl | simp only [Keeps, Tm.get_cons, Nat.reduceEqDiff, ↓reduceIte, if_true, if_false, ite_true, ite_false, true_and, and_true, and_self, reduceCtorEq, hwi, hit, hst2, hlen])
        | exact Weak.to (extra := [_]) (by simp only [Keeps, Tm.get_cons, Nat.reduceEqDiff, ↓reduceIte, if_true, if_false, ite_true, ite_false, true_and, and_true, and_self, reduceCtorEq, hwi, hit, hst2, hlen]) (by first | rfl | (simp only [List.append_assoc, List.cons_append, List.nil_append]; rfl)) (by first | rfl | (simp [AV.below, CV.below, il_below, bl_below]; done) | (simp [AV.below, CV.below, il_below, bl_below]; omega)) (by
            first | exact hwf | refine MWf.app (hwf.grow (by simp)) ?_
            repeat (first | exact MWf_nil | (refine MWf_cons ?_ ?_; · first | rfl | (simp [CV.below, il_below, bl_below]; done) | (simp [CV.below, il_below, bl_below]; omega))))
  · have hin : N = j := by have := of_decide_eq_false h8; omega
    subst hin
    refine AW.exit ?_
    refine Thn_e ?_
    clear hK K
    refine Thn_e ?_
    refine InB_here ?_
    refine Thn_n ?_
    refine hK _ _ ?_
    clear hK K
    refine AW.seq_k fun K hK => ?_
    refine AW.region (by decide) ?_
    simp only [push_cast, Nat.reduceAdd, Nat.reduceMul, Nat.reduceSub, Nat.reduceLeDiff, Nat.reduceLT, Nat.reduceEqDiff, Nat.reduceBEq, Nat.reduceBNe, Nat.reduceMod, Nat.reduceDiv, Int.reduceLE, Int.reduceLT, Int.reduceToNat, Int.reduceAdd, Int.reduceSub, Int.reduceMul, Int.reduceNeg, Int.reduceEq, Int.reduceBEq, Int.reduceBNe, ↓reduceIte, reduceCtorEq, String.reduceBNe, String.reduceEq, reduceDIte, Nat.reducePow, hb, lk_old hb]
    refine Thn_n ?_
    refine hK _ _ ?_
    clear hK K
    refine AW.ret ?_
    refine hQ _ _ _ ?_
    refine RetP.pick [(m.length, (flt s N).length)] (Or.inr rfl) ?_ ?_ ?_ hwf ?_
    · simp only [resA, resOne, resTv, AV.tv, push_cast, Nat.reduceAdd, Nat.reduceMul, Nat.reduceSub, Nat.reduceLeDiff, Nat.reduceLT, Nat.reduceEqDiff, Nat.reduceBEq, Nat.reduceBNe, Nat.reduceMod, Nat.reduceDiv, Int.reduceLE, Int.reduceLT, Int.reduceToNat, Int.reduceAdd, Int.reduceSub, Int.reduceMul, Int.reduceNeg, Int.reduceEq, Int.reduceBEq, Int.reduceBNe, ↓reduceIte, reduceCtorEq, String.reduceBNe, String.reduceEq, reduceDIte, Nat.reducePow]
      simp [renV, renT, renL, renC, renIdx, hlt0]
    · simp only [picks, push_cast, Nat.reduceAdd, Nat.reduceMul, Nat.reduceSub, Nat.reduceLeDiff, Nat.reduceLT, Nat.reduceEqDiff, Nat.reduceBEq, Nat.reduceBNe, Nat.reduceMod, Nat.reduceDiv, Int.reduceLE, Int.reduceLT, Int.reduceToNat, Int.reduceAdd, Int.reduceSub, Int.reduceMul, Int.reduceNeg, Int.reduceEq, Int.reduceBEq, Int.reduceBNe, ↓reduceIte, reduceCtorEq, String.reduceBNe, String.reduceEq, reduceDIte, Nat.reducePow]
    · simp [distinctFrom]
    · exact MWf_one (il_below _ _ _)
    
end Go.Proofs.Ytppolbilohkjmaa
