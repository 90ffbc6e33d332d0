/- Walks and facts of this seat's program over abstract states, printed by a program of mine; no conditions but those that each theorem names. -/
import Derived.Test.YtgbehbaecdepjaaFilmA
set_option linter.unusedSimpArgs false
set_option linter.unusedVariables false
set_option maxRecDepth 100000
set_option maxHeartbeats 4000000
namespace Go.Proofs.Ytgbehbaecdepjaa
open Go Go.Eng

/-- May a film be? -/
def okP (n : Nat) (fS fF : Nat → Int) (i : Nat) : Prop := ¬ fS i < -1 ∧ ¬ 128 ≤ fS i ∧ ¬ fF i < -1 ∧ ¬ (n : Int) ≤ fF i
instance (n : Nat) (fS fF : Nat → Int) (i : Nat) : Decidable (okP n fS fF i) := by unfold okP; infer_instance
def lenR (n nD nN nB nS nF : Nat) : Prop := nD = n ∧ nN = n ∧ nB = n ∧ nS = n ∧ nF = n
instance (n nD nN nB nS nF : Nat) : Decidable (lenR n nD nN nB nS nF) := by unfold lenR; infer_instance
def filmR (W H : Int) (nL nD nN nB nS nF : Nat) (fS fF : Nat → Int) : Bool := shR W H nL && (decide (lenR nL nD nN nB nS nF) && decide (∀ i, i < nL → okP nL fS fF i))
theorem shR_wh {W H : Int} {n : Nat} (h : shR W H n = true) : IntKind.i64.wrap (W * H) = (n : Int) := by
  simp only [shR, Bool.and_eq_true, beq_iff_eq] at h
  exact h.2.symm
theorem filmRight_a (W H : Int) (rL nL rD nD rN nN rB nB rS nS rF nF vL vD vN vB vS vF : Nat) (fS fF : Nat → Int) (m : AMem) (hz : shR W H nL = false) : Ctr Try.prog 13 [.agg [.int .i64 W, .int .i64 H, .sl rL vL 0 nL, .sl rD vD 0 nD, .sl rN vN 0 nN, .sl rB vB 0 nB, .sl rS vS 0 nS, .sl rF vF 0 nF]] m (.one (.bool (filmR W H nL nD nN nB nS nF fS fF))) m := by
  refine Ctr.enter Try.func13 rfl (by decide) (rs := [.tmp 2]) (nt := 82) rfl rfl fun hwf Q hQ => ?_
  refine AW.seq_k fun K hK => ?_
  refine AW.region (by decide) ?_
  simp only [push_cast, simprocAttr, hz]
  refine Thn_n ?_
  refine hK _ _ ?_
  clear hK K
  refine AW.seq_k fun K hK => ?_
  refine AW.seq_k fun K hK => ?_
  refine AW.region (by decide) ?_
  simp only [push_cast, simprocAttr, hz]
  refine CThen.by (sheetRight_c _ _ _ _ _ _) ?_
  simp only [push_cast, simprocAttr, hz]
  refine Thn_n ?_
  refine hK _ _ ?_
  clear hK K
  refine AW.cond_t rfl ?_
  refine AW.seq_k fun K hK => ?_
  refine AW.region (by decide) ?_
  simp only [push_cast, simprocAttr, hz]
  refine Thn_n ?_
  refine hK _ _ ?_
  clear hK K
  refine AW.ret ?_
  refine Thn_r ?_
  refine hQ _ _ _ ?_
  first | refine RetP.drop0 (Or.inr rfl) ?_ ?_ hwf | refine RetP.drop (Or.inr rfl) ?_ ?_ hwf
  · simp only [resA, resOne, resTv, AV.tv, push_cast, simprocAttr, hz, filmR, hz, Bool.false_and]
  · rfl
theorem filmRight_b (W H : Int) (rL nL rD nD rN nN rB nB rS nS rF nF vL vD vN vB vS vF : Nat) (fS fF : Nat → Int) (m : AMem) (hz : shR W H nL = true) (hl : ¬ lenR nL nD nN nB nS nF) : Ctr Try.prog 13 [.agg [.int .i64 W, .int .i64 H, .sl rL vL 0 nL, .sl rD vD 0 nD, .sl rN vN 0 nN, .sl rB vB 0 nB, .sl rS vS 0 nS, .sl rF vF 0 nF]] m (.one (.bool (filmR W H nL nD nN nB nS nF fS fF))) m := by
  refine Ctr.enter Try.func13 rfl (by decide) (rs := [.tmp 2]) (nt := 82) rfl rfl fun hwf Q hQ => ?_
  have hn := shR_wh hz
  have hr : filmR W H nL nD nN nB nS nF fS fF = false := by unfold filmR; rw [decide_eq_false hl]; simp
  rcases chain5 (((nD : Int) != (nL : Int)) = false) (((nN : Int) != (nL : Int)) = false) (((nB : Int) != (nL : Int)) = false) (((nS : Int) != (nL : Int)) = false) (((nF : Int) != (nL : Int)) = false) with ⟨s1, s2, s3, s4, s5⟩ | ⟨s1, s2, s3, s4, s5⟩ | ⟨s1, s2, s3, s4, s5⟩ | ⟨s1, s2, s3, s4, s5⟩ | ⟨s1, s2, s3, s4, s5⟩ | ⟨s1, s2, s3, s4, s5⟩
  · exact absurd (by unfold lenR; simp only [bne_eq_false_iff_eq, Int.ofNat_inj] at s1 s2 s3 s4 s5; omega) hl
  all_goals (
  try simp only [Bool.not_eq_true, Bool.not_eq_false, Classical.not_not] at s1 s2 s3 s4 s5
  refine AW.seq_k fun K hK => ?_
  refine AW.region (by decide) ?_
  simp only [push_cast, simprocAttr, s1, s2, s3, s4, s5, hz, hn]
  refine Thn_n ?_
  refine hK _ _ ?_
  clear hK K
  refine AW.seq_k fun K hK => ?_
  refine AW.seq_k fun K hK => ?_
  refine AW.region (by decide) ?_
  simp only [push_cast, simprocAttr, s1, s2, s3, s4, s5, hz, hn]
  refine CThen.by (sheetRight_c _ _ _ _ _ _) ?_
  simp only [push_cast, simprocAttr, s1, s2, s3, s4, s5, hz, hn]
  refine Thn_n ?_
  refine hK _ _ ?_
  clear hK K
  refine AW.cond_f rfl ?_
  refine AW.skip ?_
  refine Thn_n ?_
  refine hK _ _ ?_
  clear hK K
  refine AW.seq_k fun K hK => ?_
  refine AW.region (by decide) ?_
  simp only [push_cast, simprocAttr, s1, s2, s3, s4, s5, hz, hn]
  refine CThen.by (pixels_c _ _ _) ?_
  simp only [push_cast, simprocAttr, s1, s2, s3, s4, s5, hz, hn]
  refine Thn_n ?_
  refine hK _ _ ?_
  clear hK K
  refine AW.seq_k fun K hK => ?_
  refine AW.seq_k fun K hK => ?_
  refine AW.region (by decide) ?_
  simp only [push_cast, simprocAttr, s1, s2, s3, s4, s5, hz, hn]
  refine Thn_n ?_
  refine hK _ _ ?_
  clear hK K
  refine AW.cond_t rfl ?_
  refine AW.seq_k fun K hK => ?_
  refine AW.region (by decide) ?_
  simp only [push_cast, simprocAttr, s1, s2, s3, s4, s5, hz, hn]
  refine Thn_n ?_
  refine hK _ _ ?_
  clear hK K
  refine AW.ret ?_
  refine Thn_r ?_
  refine hQ _ _ _ ?_
  first | refine RetP.drop0 (Or.inr rfl) ?_ ?_ hwf | refine RetP.drop (Or.inr rfl) ?_ ?_ hwf
  · simp only [resA, resOne, resTv, AV.tv, push_cast, simprocAttr, s1, s2, s3, s4, s5, hz, hn, hr]
  · rfl
  )
theorem filmRight_c (W H : Int) (rL nL rD nD rN nN rB nB rS nS rF nF vL vD vN vB vS vF : Nat) (fS fF : Nat → Int) (m : AMem) (hz : shR W H nL = true) (hl : lenR nL nD nN nB nS nF) (pS : ∃ k ez, m[rS]? = some ⟨k, 3, vS, ez, il nS fS⟩) (pF : ∃ k ez, m[rF]? = some ⟨k, 3, vF, ez, il nF fF⟩) (bL : nL ≤ 1048576) : Ctr Try.prog 13 [.agg [.int .i64 W, .int .i64 H, .sl rL vL 0 nL, .sl rD vD 0 nD, .sl rN vN 0 nN, .sl rB vB 0 nB, .sl rS vS 0 nS, .sl rF vF 0 nF]] m (.one (.bool (filmR W H nL nD nN nB nS nF fS fF))) m := by
  refine Ctr.enter Try.func13 rfl (by decide) (rs := [.tmp 2]) (nt := 82) rfl rfl fun hwf Q hQ => ?_
  have hn := shR_wh hz
  obtain ⟨e1, e2, e3, e4, e5⟩ := id hl
  subst e2; subst e3; subst e4; subst e5; subst e1
  obtain ⟨kS, eS, hSb⟩ := pS
  obtain ⟨kF, eF, hFb⟩ := pF
  have lS := get_lt hSb
  have lF := get_lt hFb
  refine AW.seq_k fun K hK => ?_
  refine AW.region (by decide) ?_
  simp only [push_cast, simprocAttr, hz, hn, bne_self_eq_false, hSb, lk_old hSb, hFb, lk_old hFb]
  refine Thn_n ?_
  refine hK _ _ ?_
  clear hK K
  refine AW.seq_k fun K hK => ?_
  refine AW.seq_k fun K hK => ?_
  refine AW.region (by decide) ?_
  simp only [push_cast, simprocAttr, hz, hn, bne_self_eq_false, hSb, lk_old hSb, hFb, lk_old hFb]
  refine CThen.by (sheetRight_c _ _ _ _ _ _) ?_
  simp only [push_cast, simprocAttr, hz, hn, bne_self_eq_false, hSb, lk_old hSb, hFb, lk_old hFb]
  refine Thn_n ?_
  refine hK _ _ ?_
  clear hK K
  refine AW.cond_f rfl ?_
  refine AW.skip ?_
  refine Thn_n ?_
  refine hK _ _ ?_
  clear hK K
  refine AW.seq_k fun K hK => ?_
  refine AW.region (by decide) ?_
  simp only [push_cast, simprocAttr, hz, hn, bne_self_eq_false, hSb, lk_old hSb, hFb, lk_old hFb]
  refine CThen.by (pixels_c _ _ _) ?_
  simp only [push_cast, simprocAttr, hz, hn, bne_self_eq_false, hSb, lk_old hSb, hFb, lk_old hFb]
  refine Thn_n ?_
  refine hK _ _ ?_
  clear hK K
  refine AW.seq_k fun K hK => ?_
  refine AW.seq_k fun K hK => ?_
  refine AW.region (by decide) ?_
  simp only [push_cast, simprocAttr, hz, hn, bne_self_eq_false, hSb, lk_old hSb, hFb, lk_old hFb]
  refine Thn_n ?_
  refine hK _ _ ?_
  clear hK K
  refine AW.cond_f rfl ?_
  refine AW.skip ?_
  refine Thn_n ?_
  refine hK _ _ ?_
  clear hK K
  refine AW.seq_k fun K hK => ?_
  refine AW.seq_k fun K hK => ?_
  refine AW.region (by decide) ?_
  simp only [push_cast, simprocAttr, hz, hn, bne_self_eq_false, hSb, lk_old hSb, hFb, lk_old hFb]
  refine Thn_n ?_
  refine hK _ _ ?_
  clear hK K
  refine AW.block ?_
  refine AW.loopK [1, 3, 46] (fun i => i ≤ nD ∧ ∀ j, j < i → okP nD fS fF j) (fun i => [(47, .one (.int .i64 (i : Int)))]) (fun i => []) (fun i => nD - i) 0 ⟨by omega, fun j hj => by omega⟩ ?_ ?_ fun i hi9 => ?_
  · first | rfl | (simp only [Keeps, Tm.get_cons, Nat.reduceEqDiff, ↓reduceIte, if_true, if_false, ite_true, ite_false, true_and, and_true, and_self, reduceCtorEq] <;> rfl)
  · first | rfl | (simp only [setAll, push_cast, simprocAttr, hz, hn, bne_self_eq_false, hSb, lk_old hSb, hFb, lk_old hFb] <;> rfl)
  obtain ⟨hiN, hall⟩ := hi9
  try simp only [keepL, setAll, push_cast, simprocAttr, hz, hn, bne_self_eq_false, hSb, lk_old hSb, hFb, lk_old hFb]
  refine AW.seq_k fun K hK => ?_
  refine AW.region (by decide) ?_
  simp only [push_cast, simprocAttr, hz, hn, bne_self_eq_false, hSb, lk_old hSb, hFb, lk_old hFb]
  refine Thn_n ?_
  refine hK _ _ ?_
  clear hK K
  refine AW.seq_k fun K hK => ?_
  refine AW.cond rfl (fun h48 => ?_) (fun h48 => ?_)
  · have hlt : i < nD := by have := of_decide_eq_true h48; omega
    have c1 : (0 : Int) ≤ (i : Int) := by omega
    have c2 : (i : Int) < (nD : Int) := by omega
    have gS := il_get (f := fS) hlt
    have gF := il_get (f := fF) hlt
    rcases chain4 (¬ fS i < -1) (¬ 128 ≤ fS i) (¬ fF i < -1) (¬ (nD : Int) ≤ fF i) with ⟨s1, s2, s3, s4⟩ | ⟨s1, s2, s3, s4⟩ | ⟨s1, s2, s3⟩ | ⟨s1, s2⟩ | s1
    · have hnx : ∀ j, j < i + 1 → okP nD fS fF j := fun j hj => by
        rcases Nat.lt_or_ge j i with h | h
        · exact hall j h
        · rw [show j = i by omega]; exact ⟨s1, s2, s3, s4⟩
      refine AW.skip ?_
      refine Thn_n ?_
      refine hK _ _ ?_
      clear hK K
      refine AW.seq_k fun K hK => ?_
      refine AW.block ?_
      iterate 2
        refine AW.seq_k fun K hK => ?_
        refine AW.region (by decide) ?_
        simp only [push_cast, simprocAttr, hz, hn, bne_self_eq_false, hSb, lk_old hSb, hFb, lk_old hFb, c1, c2, gS, gF, s1, s2, s3, s4]
        refine Thn_n ?_
        refine hK _ _ ?_
        clear hK K
      refine AW.cond_f rfl ?_
      refine AW.skip ?_
      refine InB_n ?_
      refine Thn_n ?_
      refine hK _ _ ?_
      clear hK K
      refine AW.region (by decide) ?_
      simp only [push_cast, simprocAttr, hz, hn, bne_self_eq_false, hSb, lk_old hSb, hFb, lk_old hFb, c1, c2, gS, gF, s1, s2, s3, s4]
      refine Thn_n ?_
      have hwi : IntKind.i64.wrap ((i:Int)+1) = (i:Int)+1 := wi (by omega)
      refine ⟨i + 1, ⟨by omega, hnx⟩, by omega, ?_⟩
      try simp only [keepL, setAll, push_cast, simprocAttr, hz, hn, bne_self_eq_false, hSb, lk_old hSb, hFb, lk_old hFb, c1, c2, gS, gF, s1, s2, s3, s4, hwi]
      exact Weak.same (by simp only [Keeps, Tm.get_cons, Nat.reduceEqDiff, ↓reduceIte, if_true, if_false, ite_true, ite_false, true_and, and_true, and_self, reduceCtorEq, hwi]) (by first | rfl | simp only [Keeps, Tm.get_cons, Nat.reduceEqDiff, ↓reduceIte, if_true, if_false, ite_true, ite_false, true_and, and_true, and_self, reduceCtorEq, hwi])
    · have hr : filmR W H nD nD nD nD nD nD fS fF = false := by
        have h9 : ¬ ∀ j, j < nD → okP nD fS fF j := fun h => by have := h i hlt; unfold okP at this; omega
        unfold filmR; rw [decide_eq_false h9]; simp
      simp only [Classical.not_not] at s4
      refine AW.skip ?_
      refine Thn_n ?_
      refine hK _ _ ?_
      clear hK K
      refine AW.seq_k fun K hK => ?_
      refine AW.block ?_
      iterate 2
        refine AW.seq_k fun K hK => ?_
        refine AW.region (by decide) ?_
        simp only [push_cast, simprocAttr, hz, hn, bne_self_eq_false, hSb, lk_old hSb, hFb, lk_old hFb, c1, c2, gS, gF, s1, s2, s3, s4]
        refine Thn_n ?_
        refine hK _ _ ?_
        clear hK K
      refine AW.cond_t rfl ?_
      refine AW.seq_k fun K hK => ?_
      refine AW.region (by decide) ?_
      simp only [push_cast, simprocAttr, hz, hn, bne_self_eq_false, hSb, lk_old hSb, hFb, lk_old hFb, c1, c2, gS, gF, s1, s2, s3, s4]
      refine Thn_n ?_
      refine hK _ _ ?_
      clear hK K
      refine AW.ret ?_
      refine InB_r ?_
      refine Thn_r ?_
      refine Thn_r ?_
      refine InB_r ?_
      refine Thn_r ?_
      refine hQ _ _ _ ?_
      first | refine RetP.drop0 (Or.inr rfl) ?_ ?_ hwf | refine RetP.drop (Or.inr rfl) ?_ ?_ hwf
      · simp only [resA, resOne, resTv, AV.tv, push_cast, simprocAttr, hz, hn, bne_self_eq_false, hSb, lk_old hSb, hFb, lk_old hFb, c1, c2, gS, gF, s1, s2, s3, s4, hr]
      · rfl
    · have hr : filmR W H nD nD nD nD nD nD fS fF = false := by
        have h9 : ¬ ∀ j, j < nD → okP nD fS fF j := fun h => by have := h i hlt; unfold okP at this; omega
        unfold filmR; rw [decide_eq_false h9]; simp
      simp only [Classical.not_not] at s3
      refine AW.skip ?_
      refine Thn_n ?_
      refine hK _ _ ?_
      clear hK K
      refine AW.seq_k fun K hK => ?_
      refine AW.block ?_
      iterate 2
        refine AW.seq_k fun K hK => ?_
        refine AW.region (by decide) ?_
        simp only [push_cast, simprocAttr, hz, hn, bne_self_eq_false, hSb, lk_old hSb, hFb, lk_old hFb, c1, c2, gS, gF, s1, s2, s3]
        refine Thn_n ?_
        refine hK _ _ ?_
        clear hK K
      refine AW.cond_t rfl ?_
      refine AW.seq_k fun K hK => ?_
      refine AW.region (by decide) ?_
      simp only [push_cast, simprocAttr, hz, hn, bne_self_eq_false, hSb, lk_old hSb, hFb, lk_old hFb, c1, c2, gS, gF, s1, s2, s3]
      refine Thn_n ?_
      refine hK _ _ ?_
      clear hK K
      refine AW.ret ?_
      refine InB_r ?_
      refine Thn_r ?_
      refine Thn_r ?_
      refine InB_r ?_
      refine Thn_r ?_
      refine hQ _ _ _ ?_
      first | refine RetP.drop0 (Or.inr rfl) ?_ ?_ hwf | refine RetP.drop (Or.inr rfl) ?_ ?_ hwf
      · simp only [resA, resOne, resTv, AV.tv, push_cast, simprocAttr, hz, hn, bne_self_eq_false, hSb, lk_old hSb, hFb, lk_old hFb, c1, c2, gS, gF, s1, s2, s3, hr]
      · rfl
    · have hr : filmR W H nD nD nD nD nD nD fS fF = false := by
        have h9 : ¬ ∀ j, j < nD → okP nD fS fF j := fun h => by have := h i hlt; unfold okP at this; omega
        unfold filmR; rw [decide_eq_false h9]; simp
      simp only [Classical.not_not] at s2
      refine AW.skip ?_
      refine Thn_n ?_
      refine hK _ _ ?_
      clear hK K
      refine AW.seq_k fun K hK => ?_
      refine AW.block ?_
      iterate 2
        refine AW.seq_k fun K hK => ?_
        refine AW.region (by decide) ?_
        simp only [push_cast, simprocAttr, hz, hn, bne_self_eq_false, hSb, lk_old hSb, hFb, lk_old hFb, c1, c2, gS, gF, s1, s2]
        refine Thn_n ?_
        refine hK _ _ ?_
        clear hK K
      refine AW.cond_t rfl ?_
      refine AW.seq_k fun K hK => ?_
      refine AW.region (by decide) ?_
      simp only [push_cast, simprocAttr, hz, hn, bne_self_eq_false, hSb, lk_old hSb, hFb, lk_old hFb, c1, c2, gS, gF, s1, s2]
      refine Thn_n ?_
      refine hK _ _ ?_
      clear hK K
      refine AW.ret ?_
      refine InB_r ?_
      refine Thn_r ?_
      refine Thn_r ?_
      refine InB_r ?_
      refine Thn_r ?_
      refine hQ _ _ _ ?_
      first | refine RetP.drop0 (Or.inr rfl) ?_ ?_ hwf | refine RetP.drop (Or.inr rfl) ?_ ?_ hwf
      · simp only [resA, resOne, resTv, AV.tv, push_cast, simprocAttr, hz, hn, bne_self_eq_false, hSb, lk_old hSb, hFb, lk_old hFb, c1, c2, gS, gF, s1, s2, hr]
      · rfl
    · have hr : filmR W H nD nD nD nD nD nD fS fF = false := by
        have h9 : ¬ ∀ j, j < nD → okP nD fS fF j := fun h => by have := h i hlt; unfold okP at this; omega
        unfold filmR; rw [decide_eq_false h9]; simp
      simp only [Classical.not_not] at s1
      refine AW.skip ?_
      refine Thn_n ?_
      refine hK _ _ ?_
      clear hK K
      refine AW.seq_k fun K hK => ?_
      refine AW.block ?_
      iterate 2
        refine AW.seq_k fun K hK => ?_
        refine AW.region (by decide) ?_
        simp only [push_cast, simprocAttr, hz, hn, bne_self_eq_false, hSb, lk_old hSb, hFb, lk_old hFb, c1, c2, gS, gF, s1]
        refine Thn_n ?_
        refine hK _ _ ?_
        clear hK K
      refine AW.cond_t rfl ?_
      refine AW.seq_k fun K hK => ?_
      refine AW.region (by decide) ?_
      simp only [push_cast, simprocAttr, hz, hn, bne_self_eq_false, hSb, lk_old hSb, hFb, lk_old hFb, c1, c2, gS, gF, s1]
      refine Thn_n ?_
      refine hK _ _ ?_
      clear hK K
      refine AW.ret ?_
      refine InB_r ?_
      refine Thn_r ?_
      refine Thn_r ?_
      refine InB_r ?_
      refine Thn_r ?_
      refine hQ _ _ _ ?_
      first | refine RetP.drop0 (Or.inr rfl) ?_ ?_ hwf | refine RetP.drop (Or.inr rfl) ?_ ?_ hwf
      · simp only [resA, resOne, resTv, AV.tv, push_cast, simprocAttr, hz, hn, bne_self_eq_false, hSb, lk_old hSb, hFb, lk_old hFb, c1, c2, gS, gF, s1, hr]
      · rfl
  · have hin : nD = i := by have := of_decide_eq_false h48; omega
    subst hin
    have hr : filmR W H nD nD nD nD nD nD fS fF = true := by unfold filmR; rw [hz, decide_eq_true hl, decide_eq_true hall]; rfl
    refine AW.exit ?_
    refine Thn_e ?_
    clear hK K
    refine Thn_e ?_
    refine InB_here ?_
    refine Thn_n ?_
    refine hK _ _ ?_
    clear hK K
    refine AW.seq_k fun K hK => ?_
    refine AW.region (by decide) ?_
    simp only [push_cast, simprocAttr, hz, hn, bne_self_eq_false, hSb, lk_old hSb, hFb, lk_old hFb]
    refine Thn_n ?_
    refine hK _ _ ?_
    clear hK K
    refine AW.ret ?_
    refine hQ _ _ _ ?_
    first | refine RetP.drop0 (Or.inr rfl) ?_ ?_ hwf | refine RetP.drop (Or.inr rfl) ?_ ?_ hwf
    · simp only [resA, resOne, resTv, AV.tv, push_cast, simprocAttr, hz, hn, bne_self_eq_false, hSb, lk_old hSb, hFb, lk_old hFb, hr]
    · rfl
theorem filmRight_v (W H : Int) (rL nL rD nD rN nN rB nB rS nS rF nF vL vD vN vB vS vF : Nat) (fS fF : Nat → Int) (m : AMem) (pS : ∃ k ez, m[rS]? = some ⟨k, 3, vS, ez, il nS fS⟩) (pF : ∃ k ez, m[rF]? = some ⟨k, 3, vF, ez, il nF fF⟩) (bL : nL ≤ 1048576) : Ctr Try.prog 13 [.agg [.int .i64 W, .int .i64 H, .sl rL vL 0 nL, .sl rD vD 0 nD, .sl rN vN 0 nN, .sl rB vB 0 nB, .sl rS vS 0 nS, .sl rF vF 0 nF]] m (.one (.bool (filmR W H nL nD nN nB nS nF fS fF))) m := by
  cases hz : shR W H nL
  · exact filmRight_a W H rL nL rD nD rN nN rB nB rS nS rF nF vL vD vN vB vS vF fS fF m hz
  · by_cases hl : lenR nL nD nN nB nS nF
    · exact filmRight_c W H rL nL rD nD rN nN rB nB rS nS rF nF vL vD vN vB vS vF fS fF m hz hl pS pF bL
    · exact filmRight_b W H rL nL rD nD rN nN rB nB rS nS rF nF vL vD vN vB vS vF fS fF m hz hl
theorem refRight_a (W H : Int) (rL nL rD nD rN nN rB nB rS nS rF nF vL vD vN vB vS vF : Nat) (fS fF : Nat → Int) (m : AMem) (hz : shR W H nL = false) : Ctr Try.prog 14 [.agg [.int .i64 W, .int .i64 H, .sl rL vL 0 nL, .sl rD vD 0 nD, .sl rN vN 0 nN, .sl rB vB 0 nB, .sl rS vS 0 nS, .sl rF vF 0 nF]] m (.one (.bool (filmR W H nL nD nN nB nS nF fS fF))) m := by
  refine Ctr.enter Try.func14 rfl (by decide) (rs := [.tmp 2]) (nt := 85) rfl rfl fun hwf Q hQ => ?_
  refine AW.seq_k fun K hK => ?_
  refine AW.region (by decide) ?_
  simp only [push_cast, simprocAttr, hz]
  refine Thn_n ?_
  refine hK _ _ ?_
  clear hK K
  refine AW.seq_k fun K hK => ?_
  refine AW.seq_k fun K hK => ?_
  refine AW.region (by decide) ?_
  simp only [push_cast, simprocAttr, hz]
  refine CThen.by (refSheet_c _ _ _ _ _ _) ?_
  simp only [push_cast, simprocAttr, hz]
  refine Thn_n ?_
  refine hK _ _ ?_
  clear hK K
  refine AW.cond_t rfl ?_
  refine AW.seq_k fun K hK => ?_
  refine AW.region (by decide) ?_
  simp only [push_cast, simprocAttr, hz]
  refine Thn_n ?_
  refine hK _ _ ?_
  clear hK K
  refine AW.ret ?_
  refine Thn_r ?_
  refine hQ _ _ _ ?_
  first | refine RetP.drop0 (Or.inr rfl) ?_ ?_ hwf | refine RetP.drop (Or.inr rfl) ?_ ?_ hwf
  · simp only [resA, resOne, resTv, AV.tv, push_cast, simprocAttr, hz, filmR, hz, Bool.false_and]
  · rfl
theorem refRight_b (W H : Int) (rL nL rD nD rN nN rB nB rS nS rF nF vL vD vN vB vS vF : Nat) (fS fF : Nat → Int) (m : AMem) (hz : shR W H nL = true) (hl : ¬ lenR nL nD nN nB nS nF) : Ctr Try.prog 14 [.agg [.int .i64 W, .int .i64 H, .sl rL vL 0 nL, .sl rD vD 0 nD, .sl rN vN 0 nN, .sl rB vB 0 nB, .sl rS vS 0 nS, .sl rF vF 0 nF]] m (.one (.bool (filmR W H nL nD nN nB nS nF fS fF))) m := by
  refine Ctr.enter Try.func14 rfl (by decide) (rs := [.tmp 2]) (nt := 85) rfl rfl fun hwf Q hQ => ?_
  have hn := shR_wh hz
  have hr : filmR W H nL nD nN nB nS nF fS fF = false := by unfold filmR; rw [decide_eq_false hl]; simp
  rcases chain5 (((nD : Int) != (nL : Int)) = false) (((nN : Int) != (nL : Int)) = false) (((nB : Int) != (nL : Int)) = false) (((nS : Int) != (nL : Int)) = false) (((nF : Int) != (nL : Int)) = false) with ⟨s1, s2, s3, s4, s5⟩ | ⟨s1, s2, s3, s4, s5⟩ | ⟨s1, s2, s3, s4, s5⟩ | ⟨s1, s2, s3, s4, s5⟩ | ⟨s1, s2, s3, s4, s5⟩ | ⟨s1, s2, s3, s4, s5⟩
  · exact absurd (by unfold lenR; simp only [bne_eq_false_iff_eq, Int.ofNat_inj] at s1 s2 s3 s4 s5; omega) hl
  all_goals (
  try simp only [Bool.not_eq_true, Bool.not_eq_false, Classical.not_not] at s1 s2 s3 s4 s5
  refine AW.seq_k fun K hK => ?_
  refine AW.region (by decide) ?_
  simp only [push_cast, simprocAttr, s1, s2, s3, s4, s5, hz, hn]
  refine Thn_n ?_
  refine hK _ _ ?_
  clear hK K
  refine AW.seq_k fun K hK => ?_
  refine AW.seq_k fun K hK => ?_
  refine AW.region (by decide) ?_
  simp only [push_cast, simprocAttr, s1, s2, s3, s4, s5, hz, hn]
  refine CThen.by (refSheet_c _ _ _ _ _ _) ?_
  simp only [push_cast, simprocAttr, s1, s2, s3, s4, s5, hz, hn]
  refine Thn_n ?_
  refine hK _ _ ?_
  clear hK K
  refine AW.cond_f rfl ?_
  refine AW.skip ?_
  refine Thn_n ?_
  refine hK _ _ ?_
  clear hK K
  refine AW.seq_k fun K hK => ?_
  refine AW.region (by decide) ?_
  simp only [push_cast, simprocAttr, s1, s2, s3, s4, s5, hz, hn]
  refine Thn_n ?_
  refine hK _ _ ?_
  clear hK K
  refine AW.seq_k fun K hK => ?_
  refine AW.seq_k fun K hK => ?_
  refine AW.region (by decide) ?_
  simp only [push_cast, simprocAttr, s1, s2, s3, s4, s5, hz, hn]
  refine Thn_n ?_
  refine hK _ _ ?_
  clear hK K
  refine AW.cond_t rfl ?_
  refine AW.seq_k fun K hK => ?_
  refine AW.region (by decide) ?_
  simp only [push_cast, simprocAttr, s1, s2, s3, s4, s5, hz, hn]
  refine Thn_n ?_
  refine hK _ _ ?_
  clear hK K
  refine AW.ret ?_
  refine Thn_r ?_
  refine hQ _ _ _ ?_
  first | refine RetP.drop0 (Or.inr rfl) ?_ ?_ hwf | refine RetP.drop (Or.inr rfl) ?_ ?_ hwf
  · simp only [resA, resOne, resTv, AV.tv, push_cast, simprocAttr, s1, s2, s3, s4, s5, hz, hn, hr]
  · rfl
  )
theorem refRight_c (W H : Int) (rL nL rD nD rN nN rB nB rS nS rF nF vL vD vN vB vS vF : Nat) (fS fF : Nat → Int) (m : AMem) (hz : shR W H nL = true) (hl : lenR nL nD nN nB nS nF) (pS : ∃ k ez, m[rS]? = some ⟨k, 3, vS, ez, il nS fS⟩) (pF : ∃ k ez, m[rF]? = some ⟨k, 3, vF, ez, il nF fF⟩) (bL : nL ≤ 1048576) : Ctr Try.prog 14 [.agg [.int .i64 W, .int .i64 H, .sl rL vL 0 nL, .sl rD vD 0 nD, .sl rN vN 0 nN, .sl rB vB 0 nB, .sl rS vS 0 nS, .sl rF vF 0 nF]] m (.one (.bool (filmR W H nL nD nN nB nS nF fS fF))) m := by
  refine Ctr.enter Try.func14 rfl (by decide) (rs := [.tmp 2]) (nt := 85) rfl rfl fun hwf Q hQ => ?_
  have hn := shR_wh hz
  obtain ⟨e1, e2, e3, e4, e5⟩ := id hl
  subst e2; subst e3; subst e4; subst e5; subst e1
  obtain ⟨kS, eS, hSb⟩ := pS
  obtain ⟨kF, eF, hFb⟩ := pF
  have lS := get_lt hSb
  have lF := get_lt hFb
  refine AW.seq_k fun K hK => ?_
  refine AW.region (by decide) ?_
  simp only [push_cast, simprocAttr, hz, hn, bne_self_eq_false, hSb, lk_old hSb, hFb, lk_old hFb]
  refine Thn_n ?_
  refine hK _ _ ?_
  clear hK K
  refine AW.seq_k fun K hK => ?_
  refine AW.seq_k fun K hK => ?_
  refine AW.region (by decide) ?_
  simp only [push_cast, simprocAttr, hz, hn, bne_self_eq_false, hSb, lk_old hSb, hFb, lk_old hFb]
  refine CThen.by (refSheet_c _ _ _ _ _ _) ?_
  simp only [push_cast, simprocAttr, hz, hn, bne_self_eq_false, hSb, lk_old hSb, hFb, lk_old hFb]
  refine Thn_n ?_
  refine hK _ _ ?_
  clear hK K
  refine AW.cond_f rfl ?_
  refine AW.skip ?_
  refine Thn_n ?_
  refine hK _ _ ?_
  clear hK K
  refine AW.seq_k fun K hK => ?_
  refine AW.region (by decide) ?_
  simp only [push_cast, simprocAttr, hz, hn, bne_self_eq_false, hSb, lk_old hSb, hFb, lk_old hFb]
  refine Thn_n ?_
  refine hK _ _ ?_
  clear hK K
  refine AW.seq_k fun K hK => ?_
  refine AW.seq_k fun K hK => ?_
  refine AW.region (by decide) ?_
  simp only [push_cast, simprocAttr, hz, hn, bne_self_eq_false, hSb, lk_old hSb, hFb, lk_old hFb]
  refine Thn_n ?_
  refine hK _ _ ?_
  clear hK K
  refine AW.cond_f rfl ?_
  refine AW.skip ?_
  refine Thn_n ?_
  refine hK _ _ ?_
  clear hK K
  refine AW.seq_k fun K hK => ?_
  refine AW.seq_k fun K hK => ?_
  refine AW.region (by decide) ?_
  simp only [push_cast, simprocAttr, hz, hn, bne_self_eq_false, hSb, lk_old hSb, hFb, lk_old hFb]
  refine Thn_n ?_
  refine hK _ _ ?_
  clear hK K
  refine AW.block ?_
  refine AW.loopK [1, 3] (fun i => i ≤ nD ∧ ∀ j, j < i → okP nD fS fF j) (fun i => [(4, .one (.int .i64 (i : Int)))]) (fun i => []) (fun i => nD - i) 0 ⟨by omega, fun j hj => by omega⟩ ?_ ?_ fun i hi9 => ?_
  · first | rfl | (simp only [Keeps, Tm.get_cons, Nat.reduceEqDiff, ↓reduceIte, if_true, if_false, ite_true, ite_false, true_and, and_true, and_self, reduceCtorEq] <;> rfl)
  · first | rfl | (simp only [setAll, push_cast, simprocAttr, hz, hn, bne_self_eq_false, hSb, lk_old hSb, hFb, lk_old hFb] <;> rfl)
  obtain ⟨hiN, hall⟩ := hi9
  try simp only [keepL, setAll, push_cast, simprocAttr, hz, hn, bne_self_eq_false, hSb, lk_old hSb, hFb, lk_old hFb]
  refine AW.seq_k fun K hK => ?_
  refine AW.seq_k fun K hK => ?_
  refine AW.region (by decide) ?_
  simp only [push_cast, simprocAttr, hz, hn, bne_self_eq_false, hSb, lk_old hSb, hFb, lk_old hFb]
  refine Thn_n ?_
  refine hK _ _ ?_
  clear hK K
  refine AW.cond rfl (fun h51 => ?_) (fun h51 => ?_)
  · have hlt : i < nD := by have := of_decide_eq_true h51; omega
    have c1 : (0 : Int) ≤ (i : Int) := by omega
    have c2 : (i : Int) < (nD : Int) := by omega
    have gS := il_get (f := fS) hlt
    have gF := il_get (f := fF) hlt
    rcases chain4 (¬ fS i < -1) (¬ 128 ≤ fS i) (¬ fF i < -1) (¬ (nD : Int) ≤ fF i) with ⟨s1, s2, s3, s4⟩ | ⟨s1, s2, s3, s4⟩ | ⟨s1, s2, s3⟩ | ⟨s1, s2⟩ | s1
    · have hnx : ∀ j, j < i + 1 → okP nD fS fF j := fun j hj => by
        rcases Nat.lt_or_ge j i with h | h
        · exact hall j h
        · rw [show j = i by omega]; exact ⟨s1, s2, s3, s4⟩
      refine AW.skip ?_
      refine Thn_n ?_
      refine hK _ _ ?_
      clear hK K
      refine AW.seq_k fun K hK => ?_
      refine AW.block ?_
      refine AW.seq_k fun K hK => ?_
      refine AW.region (by decide) ?_
      simp only [push_cast, simprocAttr, hz, hn, bne_self_eq_false, hSb, lk_old hSb, hFb, lk_old hFb, c1, c2, gS, gF, s1, s2, s3, s4]
      refine Thn_n ?_
      refine hK _ _ ?_
      clear hK K
      refine AW.cond_f rfl ?_
      refine AW.skip ?_
      refine InB_n ?_
      refine Thn_n ?_
      refine hK _ _ ?_
      clear hK K
      refine AW.region (by decide) ?_
      simp only [push_cast, simprocAttr, hz, hn, bne_self_eq_false, hSb, lk_old hSb, hFb, lk_old hFb, c1, c2, gS, gF, s1, s2, s3, s4]
      refine Thn_n ?_
      have hwi : IntKind.i64.wrap ((i:Int)+1) = (i:Int)+1 := wi (by omega)
      refine ⟨i + 1, ⟨by omega, hnx⟩, by omega, ?_⟩
      try simp only [keepL, setAll, push_cast, simprocAttr, hz, hn, bne_self_eq_false, hSb, lk_old hSb, hFb, lk_old hFb, c1, c2, gS, gF, s1, s2, s3, s4, hwi]
      exact Weak.same (by simp only [Keeps, Tm.get_cons, Nat.reduceEqDiff, ↓reduceIte, if_true, if_false, ite_true, ite_false, true_and, and_true, and_self, reduceCtorEq, hwi]) (by first | rfl | simp only [Keeps, Tm.get_cons, Nat.reduceEqDiff, ↓reduceIte, if_true, if_false, ite_true, ite_false, true_and, and_true, and_self, reduceCtorEq, hwi])
    · have hr : filmR W H nD nD nD nD nD nD fS fF = false := by
        have h9 : ¬ ∀ j, j < nD → okP nD fS fF j := fun h => by have := h i hlt; unfold okP at this; omega
        unfold filmR; rw [decide_eq_false h9]; simp
      simp only [Classical.not_not] at s4
      refine AW.skip ?_
      refine Thn_n ?_
      refine hK _ _ ?_
      clear hK K
      refine AW.seq_k fun K hK => ?_
      refine AW.block ?_
      refine AW.seq_k fun K hK => ?_
      refine AW.region (by decide) ?_
      simp only [push_cast, simprocAttr, hz, hn, bne_self_eq_false, hSb, lk_old hSb, hFb, lk_old hFb, c1, c2, gS, gF, s1, s2, s3, s4]
      refine Thn_n ?_
      refine hK _ _ ?_
      clear hK K
      refine AW.cond_t rfl ?_
      refine AW.seq_k fun K hK => ?_
      refine AW.region (by decide) ?_
      simp only [push_cast, simprocAttr, hz, hn, bne_self_eq_false, hSb, lk_old hSb, hFb, lk_old hFb, c1, c2, gS, gF, s1, s2, s3, s4]
      refine Thn_n ?_
      refine hK _ _ ?_
      clear hK K
      refine AW.ret ?_
      refine InB_r ?_
      refine Thn_r ?_
      refine Thn_r ?_
      refine InB_r ?_
      refine Thn_r ?_
      refine hQ _ _ _ ?_
      first | refine RetP.drop0 (Or.inr rfl) ?_ ?_ hwf | refine RetP.drop (Or.inr rfl) ?_ ?_ hwf
      · simp only [resA, resOne, resTv, AV.tv, push_cast, simprocAttr, hz, hn, bne_self_eq_false, hSb, lk_old hSb, hFb, lk_old hFb, c1, c2, gS, gF, s1, s2, s3, s4, hr]
      · rfl
    · have hr : filmR W H nD nD nD nD nD nD fS fF = false := by
        have h9 : ¬ ∀ j, j < nD → okP nD fS fF j := fun h => by have := h i hlt; unfold okP at this; omega
        unfold filmR; rw [decide_eq_false h9]; simp
      simp only [Classical.not_not] at s3
      refine AW.skip ?_
      refine Thn_n ?_
      refine hK _ _ ?_
      clear hK K
      refine AW.seq_k fun K hK => ?_
      refine AW.block ?_
      refine AW.seq_k fun K hK => ?_
      refine AW.region (by decide) ?_
      simp only [push_cast, simprocAttr, hz, hn, bne_self_eq_false, hSb, lk_old hSb, hFb, lk_old hFb, c1, c2, gS, gF, s1, s2, s3]
      refine Thn_n ?_
      refine hK _ _ ?_
      clear hK K
      refine AW.cond_t rfl ?_
      refine AW.seq_k fun K hK => ?_
      refine AW.region (by decide) ?_
      simp only [push_cast, simprocAttr, hz, hn, bne_self_eq_false, hSb, lk_old hSb, hFb, lk_old hFb, c1, c2, gS, gF, s1, s2, s3]
      refine Thn_n ?_
      refine hK _ _ ?_
      clear hK K
      refine AW.ret ?_
      refine InB_r ?_
      refine Thn_r ?_
      refine Thn_r ?_
      refine InB_r ?_
      refine Thn_r ?_
      refine hQ _ _ _ ?_
      first | refine RetP.drop0 (Or.inr rfl) ?_ ?_ hwf | refine RetP.drop (Or.inr rfl) ?_ ?_ hwf
      · simp only [resA, resOne, resTv, AV.tv, push_cast, simprocAttr, hz, hn, bne_self_eq_false, hSb, lk_old hSb, hFb, lk_old hFb, c1, c2, gS, gF, s1, s2, s3, hr]
      · rfl
    · have hr : filmR W H nD nD nD nD nD nD fS fF = false := by
        have h9 : ¬ ∀ j, j < nD → okP nD fS fF j := fun h => by have := h i hlt; unfold okP at this; omega
        unfold filmR; rw [decide_eq_false h9]; simp
      simp only [Classical.not_not] at s2
      refine AW.skip ?_
      refine Thn_n ?_
      refine hK _ _ ?_
      clear hK K
      refine AW.seq_k fun K hK => ?_
      refine AW.block ?_
      refine AW.seq_k fun K hK => ?_
      refine AW.region (by decide) ?_
      simp only [push_cast, simprocAttr, hz, hn, bne_self_eq_false, hSb, lk_old hSb, hFb, lk_old hFb, c1, c2, gS, gF, s1, s2]
      refine Thn_n ?_
      refine hK _ _ ?_
      clear hK K
      refine AW.cond_t rfl ?_
      refine AW.seq_k fun K hK => ?_
      refine AW.region (by decide) ?_
      simp only [push_cast, simprocAttr, hz, hn, bne_self_eq_false, hSb, lk_old hSb, hFb, lk_old hFb, c1, c2, gS, gF, s1, s2]
      refine Thn_n ?_
      refine hK _ _ ?_
      clear hK K
      refine AW.ret ?_
      refine InB_r ?_
      refine Thn_r ?_
      refine Thn_r ?_
      refine InB_r ?_
      refine Thn_r ?_
      refine hQ _ _ _ ?_
      first | refine RetP.drop0 (Or.inr rfl) ?_ ?_ hwf | refine RetP.drop (Or.inr rfl) ?_ ?_ hwf
      · simp only [resA, resOne, resTv, AV.tv, push_cast, simprocAttr, hz, hn, bne_self_eq_false, hSb, lk_old hSb, hFb, lk_old hFb, c1, c2, gS, gF, s1, s2, hr]
      · rfl
    · have hr : filmR W H nD nD nD nD nD nD fS fF = false := by
        have h9 : ¬ ∀ j, j < nD → okP nD fS fF j := fun h => by have := h i hlt; unfold okP at this; omega
        unfold filmR; rw [decide_eq_false h9]; simp
      simp only [Classical.not_not] at s1
      refine AW.skip ?_
      refine Thn_n ?_
      refine hK _ _ ?_
      clear hK K
      refine AW.seq_k fun K hK => ?_
      refine AW.block ?_
      refine AW.seq_k fun K hK => ?_
      refine AW.region (by decide) ?_
      simp only [push_cast, simprocAttr, hz, hn, bne_self_eq_false, hSb, lk_old hSb, hFb, lk_old hFb, c1, c2, gS, gF, s1]
      refine Thn_n ?_
      refine hK _ _ ?_
      clear hK K
      refine AW.cond_t rfl ?_
      refine AW.seq_k fun K hK => ?_
      refine AW.region (by decide) ?_
      simp only [push_cast, simprocAttr, hz, hn, bne_self_eq_false, hSb, lk_old hSb, hFb, lk_old hFb, c1, c2, gS, gF, s1]
      refine Thn_n ?_
      refine hK _ _ ?_
      clear hK K
      refine AW.ret ?_
      refine InB_r ?_
      refine Thn_r ?_
      refine Thn_r ?_
      refine InB_r ?_
      refine Thn_r ?_
      refine hQ _ _ _ ?_
      first | refine RetP.drop0 (Or.inr rfl) ?_ ?_ hwf | refine RetP.drop (Or.inr rfl) ?_ ?_ hwf
      · simp only [resA, resOne, resTv, AV.tv, push_cast, simprocAttr, hz, hn, bne_self_eq_false, hSb, lk_old hSb, hFb, lk_old hFb, c1, c2, gS, gF, s1, hr]
      · rfl
  · have hin : nD = i := by have := of_decide_eq_false h51; omega
    subst hin
    have hr : filmR W H nD nD nD nD nD nD fS fF = true := by unfold filmR; rw [hz, decide_eq_true hl, decide_eq_true hall]; rfl
    refine AW.exit ?_
    refine Thn_e ?_
    clear hK K
    refine Thn_e ?_
    refine InB_here ?_
    refine Thn_n ?_
    refine hK _ _ ?_
    clear hK K
    refine AW.seq_k fun K hK => ?_
    refine AW.region (by decide) ?_
    simp only [push_cast, simprocAttr, hz, hn, bne_self_eq_false, hSb, lk_old hSb, hFb, lk_old hFb]
    refine Thn_n ?_
    refine hK _ _ ?_
    clear hK K
    refine AW.ret ?_
    refine hQ _ _ _ ?_
    first | refine RetP.drop0 (Or.inr rfl) ?_ ?_ hwf | refine RetP.drop (Or.inr rfl) ?_ ?_ hwf
    · simp only [resA, resOne, resTv, AV.tv, push_cast, simprocAttr, hz, hn, bne_self_eq_false, hSb, lk_old hSb, hFb, lk_old hFb, hr]
    · rfl
theorem refRight_v (W H : Int) (rL nL rD nD rN nN rB nB rS nS rF nF vL vD vN vB vS vF : Nat) (fS fF : Nat → Int) (m : AMem) (pS : ∃ k ez, m[rS]? = some ⟨k, 3, vS, ez, il nS fS⟩) (pF : ∃ k ez, m[rF]? = some ⟨k, 3, vF, ez, il nF fF⟩) (bL : nL ≤ 1048576) : Ctr Try.prog 14 [.agg [.int .i64 W, .int .i64 H, .sl rL vL 0 nL, .sl rD vD 0 nD, .sl rN vN 0 nN, .sl rB vB 0 nB, .sl rS vS 0 nS, .sl rF vF 0 nF]] m (.one (.bool (filmR W H nL nD nN nB nS nF fS fF))) m := by
  cases hz : shR W H nL
  · exact refRight_a W H rL nL rD nD rN nN rB nB rS nS rF nF vL vD vN vB vS vF fS fF m hz
  · by_cases hl : lenR nL nD nN nB nS nF
    · exact refRight_c W H rL nL rD nD rN nN rB nB rS nS rF nF vL vD vN vB vS vF fS fF m hz hl pS pF bL
    · exact refRight_b W H rL nL rD nD rN nN rB nB rS nS rF nF vL vD vN vB vS vF fS fF m hz hl
theorem filmRight_all (W H : Int) (rL nL rD nD rN nN rB nB rS nS rF nF : Nat) (fS fF : Nat → Int) (m : AMem) (pS : IRow m 3 rS nS fS) (pF : IRow m 3 rF nF fF) (bL : nL ≤ 1048576) : Ctr Try.prog 13 [.agg [.int .i64 W, .int .i64 H, .sl rL 0 0 nL, .sl rD 0 0 nD, .sl rN 0 0 nN, .sl rB 0 0 nB, .sl rS 0 0 nS, .sl rF 0 0 nF]] m (.one (.bool (filmR W H nL nD nN nB nS nF fS fF))) m := filmRight_v W H rL nL rD nD rN nN rB nB rS nS rF nF 0 0 0 0 0 0 fS fF m pS.hb pF.hb bL
theorem refRight_all (W H : Int) (rL nL rD nD rN nN rB nB rS nS rF nF : Nat) (fS fF : Nat → Int) (m : AMem) (pS : IRow m 3 rS nS fS) (pF : IRow m 3 rF nF fF) (bL : nL ≤ 1048576) : Ctr Try.prog 14 [.agg [.int .i64 W, .int .i64 H, .sl rL 0 0 nL, .sl rD 0 0 nD, .sl rN 0 0 nN, .sl rB 0 0 nB, .sl rS 0 0 nS, .sl rF 0 0 nF]] m (.one (.bool (filmR W H nL nD nN nB nS nF fS fF))) m := refRight_v W H rL nL rD nD rN nN rB nB rS nS rF nF 0 0 0 0 0 0 fS fF m pS.hb pF.hb bL
end Go.Proofs.Ytgbehbaecdepjaa
