/- Walks and facts of this seat's program over abstract states, printed by programs of mine; no conditions but those that each theorem names. -/
import Derived.Test.YtbigijnadkeecaaDoorM3
import Derived.Shelf.Strconv.Atoi
import Derived.Shelf.Strconv.Itoa0
import Derived.Shelf.Strconv.Itoa1
import Derived.Shelf.LaysM
import Derived.Shelf.Strconv.Itoa2
import Derived.Shelf.Strconv.Itoa3
import Derived.Shelf.Strconv.AtoiErrFast
import Derived.Shelf.Strconv.ParseIntEmpty
import Derived.Shelf.Strconv.AtoiFail
import Derived.Shelf.Strconv.Clone
import Derived.Shelf.Strconv.SyntaxError
import Derived.Shelf.LaysC
import Derived.Shelf.Strconv.ToError
import Derived.Shelf.Strconv.AtoiErr
import Derived.Shelf.Strconv.ErrVar
import Derived.Laws.Externs
import Derived.MakeChecks
import Derived.Sort.Row
import Derived.Sort.Grow
import Derived.Lib.SlKeysI
import Derived.WideShapes
import Derived.Maps.Own
import Derived.Stop.LaidErr
import Derived.Lib.LaidTab
import Derived.Lib.ItoaNum
import Derived.Lib.Atoi
import Derived.Lib.AtoiBound
import Derived.Lib.AtoiErrMem
import Derived.Lib.Bytealg
import Derived.Shelf.Bytes.SlIndexAt
set_option linter.unusedSimpArgs false
set_option linter.unusedVariables false
set_option maxRecDepth 100000
set_option maxHeartbeats 4000000
namespace Go.Proofs.YtbigijnadkeecaaDoor
open Go Go.Eng

/-- May a film be? -/
def okP (n : Nat) (fS fF : Nat → Int) (i : Nat) : Prop := ¬ fS i < -1 ∧ ¬ 128 ≤ fS i ∧ ¬ fF i < -1 ∧ ¬ (n : Int) ≤ fF i
instance (n : Nat) (fS fF : Nat → Int) (i : Nat) : Decidable (okP n fS fF i) := by unfold okP; infer_instance
def lenR (n nD nN nB nS nF : Nat) : Prop := nD = n ∧ nN = n ∧ nB = n ∧ nS = n ∧ nF = n
instance (n nD nN nB nS nF : Nat) : Decidable (lenR n nD nN nB nS nF) := by unfold lenR; infer_instance
def filmR (W H : Int) (nL nD nN nB nS nF : Nat) (fS fF : Nat → Int) : Bool := shR W H nL && (decide (lenR nL nD nN nB nS nF) && decide (∀ i, i < nL → okP nL fS fF i))
theorem shR_wh {W H : Int} {n : Nat} (h : shR W H n = true) : IntKind.i64.wrap (W * H) = (n : Int) := by
  simp only [shR, Bool.and_eq_true, beq_iff_eq] at h
  exact h.2.symm
theorem filmRight_a (W H : Int) (rL nL rD nD rN nN rB nB rS nS rF nF vL vD vN vB vS vF : Nat) (fS fF : Nat → Int) (m : AMem) (hz : shR W H nL = false) : Ctr Tryd.prog 34 [.agg [.int .i64 W, .int .i64 H, .sl rL vL 0 nL, .sl rD vD 0 nD, .sl rN vN 0 nN, .sl rB vB 0 nB, .sl rS vS 0 nS, .sl rF vF 0 nF]] m (.one (.bool (filmR W H nL nD nN nB nS nF fS fF))) m := by
  refine Ctr.enter Tryd.func34 rfl (by decide) (rs := [.tmp 2]) (nt := 82) rfl rfl fun hwf Q hQ => ?_
  refine AW.seq_k fun K hK => ?_
  refine AW.region (by decide) ?_
  simp only [push_cast, simprocAttr, hz]
  refine Thn_n ?_
  refine hK _ _ ?_
  clear hK K
  refine AW.seq_k fun K hK => ?_
  refine AW.seq_k fun K hK => ?_
  refine AW.region (by decide) ?_
  simp only [push_cast, simprocAttr, hz]
  refine CThen.by (sheetRight_c _ _ _ _ _ _) ?_
  simp only [push_cast, simprocAttr, hz]
  refine Thn_n ?_
  refine hK _ _ ?_
  clear hK K
  refine AW.cond_t rfl ?_
  refine AW.seq_k fun K hK => ?_
  refine AW.region (by decide) ?_
  simp only [push_cast, simprocAttr, hz]
  refine Thn_n ?_
  refine hK _ _ ?_
  clear hK K
  refine AW.ret ?_
  refine Thn_r ?_
  refine hQ _ _ _ ?_
  first | refine RetP.drop0 (Or.inr rfl) ?_ ?_ hwf | refine RetP.drop (Or.inr rfl) ?_ ?_ hwf
  · simp only [resA, resOne, resTv, AV.tv, push_cast, simprocAttr, hz, filmR, hz, Bool.false_and]
  · rfl
theorem filmRight_b (W H : Int) (rL nL rD nD rN nN rB nB rS nS rF nF vL vD vN vB vS vF : Nat) (fS fF : Nat → Int) (m : AMem) (hz : shR W H nL = true) (hl : ¬ lenR nL nD nN nB nS nF) : Ctr Tryd.prog 34 [.agg [.int .i64 W, .int .i64 H, .sl rL vL 0 nL, .sl rD vD 0 nD, .sl rN vN 0 nN, .sl rB vB 0 nB, .sl rS vS 0 nS, .sl rF vF 0 nF]] m (.one (.bool (filmR W H nL nD nN nB nS nF fS fF))) m := by
  refine Ctr.enter Tryd.func34 rfl (by decide) (rs := [.tmp 2]) (nt := 82) rfl rfl fun hwf Q hQ => ?_
  have hn := shR_wh hz
  have hr : filmR W H nL nD nN nB nS nF fS fF = false := by unfold filmR; rw [decide_eq_false hl]; simp
  rcases chain5 (((nD : Int) != (nL : Int)) = false) (((nN : Int) != (nL : Int)) = false) (((nB : Int) != (nL : Int)) = false) (((nS : Int) != (nL : Int)) = false) (((nF : Int) != (nL : Int)) = false) with ⟨s1, s2, s3, s4, s5⟩ | ⟨s1, s2, s3, s4, s5⟩ | ⟨s1, s2, s3, s4, s5⟩ | ⟨s1, s2, s3, s4, s5⟩ | ⟨s1, s2, s3, s4, s5⟩ | ⟨s1, s2, s3, s4, s5⟩
  · exact absurd (by unfold lenR; simp only [bne_eq_false_iff_eq, Int.ofNat_inj] at s1 s2 s3 s4 s5; omega) hl
  all_goals (
  try simp only [Bool.not_eq_true, Bool.not_eq_false, Classical.not_not] at s1 s2 s3 s4 s5
  refine AW.seq_k fun K hK => ?_
  refine AW.region (by decide) ?_
  simp only [push_cast, simprocAttr, s1, s2, s3, s4, s5, hz, hn]
  refine Thn_n ?_
  refine hK _ _ ?_
  clear hK K
  refine AW.seq_k fun K hK => ?_
  refine AW.seq_k fun K hK => ?_
  refine AW.region (by decide) ?_
  simp only [push_cast, simprocAttr, s1, s2, s3, s4, s5, hz, hn]
  refine CThen.by (sheetRight_c _ _ _ _ _ _) ?_
  simp only [push_cast, simprocAttr, s1, s2, s3, s4, s5, hz, hn]
  refine Thn_n ?_
  refine hK _ _ ?_
  clear hK K
  refine AW.cond_f rfl ?_
  refine AW.skip ?_
  refine Thn_n ?_
  refine hK _ _ ?_
  clear hK K
  refine AW.seq_k fun K hK => ?_
  refine AW.region (by decide) ?_
  simp only [push_cast, simprocAttr, s1, s2, s3, s4, s5, hz, hn]
  refine CThen.by (pixels_c _ _ _) ?_
  simp only [push_cast, simprocAttr, s1, s2, s3, s4, s5, hz, hn]
  refine Thn_n ?_
  refine hK _ _ ?_
  clear hK K
  refine AW.seq_k fun K hK => ?_
  refine AW.seq_k fun K hK => ?_
  refine AW.region (by decide) ?_
  simp only [push_cast, simprocAttr, s1, s2, s3, s4, s5, hz, hn]
  refine Thn_n ?_
  refine hK _ _ ?_
  clear hK K
  refine AW.cond_t rfl ?_
  refine AW.seq_k fun K hK => ?_
  refine AW.region (by decide) ?_
  simp only [push_cast, simprocAttr, s1, s2, s3, s4, s5, hz, hn]
  refine Thn_n ?_
  refine hK _ _ ?_
  clear hK K
  refine AW.ret ?_
  refine Thn_r ?_
  refine hQ _ _ _ ?_
  first | refine RetP.drop0 (Or.inr rfl) ?_ ?_ hwf | refine RetP.drop (Or.inr rfl) ?_ ?_ hwf
  · simp only [resA, resOne, resTv, AV.tv, push_cast, simprocAttr, s1, s2, s3, s4, s5, hz, hn, hr]
  · rfl
  )
theorem filmRight_c (W H : Int) (rL nL rD nD rN nN rB nB rS nS rF nF vL vD vN vB vS vF : Nat) (fS fF : Nat → Int) (m : AMem) (hz : shR W H nL = true) (hl : lenR nL nD nN nB nS nF) (pS : ∃ k ez, m[rS]? = some ⟨k, 3, vS, ez, il nS fS⟩) (pF : ∃ k ez, m[rF]? = some ⟨k, 3, vF, ez, il nF fF⟩) (bL : nL ≤ 1048576) : Ctr Tryd.prog 34 [.agg [.int .i64 W, .int .i64 H, .sl rL vL 0 nL, .sl rD vD 0 nD, .sl rN vN 0 nN, .sl rB vB 0 nB, .sl rS vS 0 nS, .sl rF vF 0 nF]] m (.one (.bool (filmR W H nL nD nN nB nS nF fS fF))) m := by
  refine Ctr.enter Tryd.func34 rfl (by decide) (rs := [.tmp 2]) (nt := 82) rfl rfl fun hwf Q hQ => ?_
  have hn := shR_wh hz
  obtain ⟨e1, e2, e3, e4, e5⟩ := id hl
  subst e2; subst e3; subst e4; subst e5; subst e1
  obtain ⟨kS, eS, hSb⟩ := pS
  obtain ⟨kF, eF, hFb⟩ := pF
  have lS := get_lt hSb
  have lF := get_lt hFb
  refine AW.seq_k fun K hK => ?_
  refine AW.region (by decide) ?_
  simp only [push_cast, simprocAttr, hz, hn, bne_self_eq_false, hSb, lk_old hSb, hFb, lk_old hFb]
  refine Thn_n ?_
  refine hK _ _ ?_
  clear hK K
  refine AW.seq_k fun K hK => ?_
  refine AW.seq_k fun K hK => ?_
  refine AW.region (by decide) ?_
  simp only [push_cast, simprocAttr, hz, hn, bne_self_eq_false, hSb, lk_old hSb, hFb, lk_old hFb]
  refine CThen.by (sheetRight_c _ _ _ _ _ _) ?_
  simp only [push_cast, simprocAttr, hz, hn, bne_self_eq_false, hSb, lk_old hSb, hFb, lk_old hFb]
  refine Thn_n ?_
  refine hK _ _ ?_
  clear hK K
  refine AW.cond_f rfl ?_
  refine AW.skip ?_
  refine Thn_n ?_
  refine hK _ _ ?_
  clear hK K
  refine AW.seq_k fun K hK => ?_
  refine AW.region (by decide) ?_
  simp only [push_cast, simprocAttr, hz, hn, bne_self_eq_false, hSb, lk_old hSb, hFb, lk_old hFb]
  refine CThen.by (pixels_c _ _ _) ?_
  simp only [push_cast, simprocAttr, hz, hn, bne_self_eq_false, hSb, lk_old hSb, hFb, lk_old hFb]
  refine Thn_n ?_
  refine hK _ _ ?_
  clear hK K
  refine AW.seq_k fun K hK => ?_
  refine AW.seq_k fun K hK => ?_
  refine AW.region (by decide) ?_
  simp only [push_cast, simprocAttr, hz, hn, bne_self_eq_false, hSb, lk_old hSb, hFb, lk_old hFb]
  refine Thn_n ?_
  refine hK _ _ ?_
  clear hK K
  refine AW.cond_f rfl ?_
  refine AW.skip ?_
  refine Thn_n ?_
  refine hK _ _ ?_
  clear hK K
  refine AW.seq_k fun K hK => ?_
  refine AW.seq_k fun K hK => ?_
  refine AW.region (by decide) ?_
  simp only [push_cast, simprocAttr, hz, hn, bne_self_eq_false, hSb, lk_old hSb, hFb, lk_old hFb]
  refine Thn_n ?_
  refine hK _ _ ?_
  clear hK K
  refine AW.block ?_
  refine AW.loopK [1, 3, 46] (fun i => i ≤ nD ∧ ∀ j, j < i → okP nD fS fF j) (fun i => [(47, .one (.int .i64 (i : Int)))]) (fun i => []) (fun i => nD - i) 0 ⟨by omega, fun j hj => by omega⟩ ?_ ?_ fun i hi9 => ?_
  · first | rfl | (simp only [Keeps, Tm.get_cons, Nat.reduceEqDiff, ↓reduceIte, if_true, if_false, ite_true, ite_false, true_and, and_true, and_self, reduceCtorEq] <;> rfl)
  · first | rfl | (simp only [setAll, push_cast, simprocAttr, hz, hn, bne_self_eq_false, hSb, lk_old hSb, hFb, lk_old hFb] <;> rfl)
  obtain ⟨hiN, hall⟩ := hi9
  try simp only [keepL, setAll, push_cast, simprocAttr, hz, hn, bne_self_eq_false, hSb, lk_old hSb, hFb, lk_old hFb]
  refine AW.seq_k fun K hK => ?_
  refine AW.region (by decide) ?_
  simp only [push_cast, simprocAttr, hz, hn, bne_self_eq_false, hSb, lk_old hSb, hFb, lk_old hFb]
  refine Thn_n ?_
  refine hK _ _ ?_
  clear hK K
  refine AW.seq_k fun K hK => ?_
  refine AW.cond rfl (fun h48 => ?_) (fun h48 => ?_)
  · have hlt : i < nD := by have := of_decide_eq_true h48; omega
    have c1 : (0 : Int) ≤ (i : Int) := by omega
    have c2 : (i : Int) < (nD : Int) := by omega
    have gS := il_get (f := fS) hlt
    have gF := il_get (f := fF) hlt
    rcases chain4 (¬ fS i < -1) (¬ 128 ≤ fS i) (¬ fF i < -1) (¬ (nD : Int) ≤ fF i) with ⟨s1, s2, s3, s4⟩ | ⟨s1, s2, s3, s4⟩ | ⟨s1, s2, s3⟩ | ⟨s1, s2⟩ | s1
    · have hnx : ∀ j, j < i + 1 → okP nD fS fF j := fun j hj => by
        rcases Nat.lt_or_ge j i with h | h
        · exact hall j h
        · rw [show j = i by omega]; exact ⟨s1, s2, s3, s4⟩
      refine AW.skip ?_
      refine Thn_n ?_
      refine hK _ _ ?_
      clear hK K
      refine AW.seq_k fun K hK => ?_
      refine AW.block ?_
      iterate 2
        refine AW.seq_k fun K hK => ?_
        refine AW.region (by decide) ?_
        simp only [push_cast, simprocAttr, hz, hn, bne_self_eq_false, hSb, lk_old hSb, hFb, lk_old hFb, c1, c2, gS, gF, s1, s2, s3, s4]
        refine Thn_n ?_
        refine hK _ _ ?_
        clear hK K
      refine AW.cond_f rfl ?_
      refine AW.skip ?_
      refine InB_n ?_
      refine Thn_n ?_
      refine hK _ _ ?_
      clear hK K
      refine AW.region (by decide) ?_
      simp only [push_cast, simprocAttr, hz, hn, bne_self_eq_false, hSb, lk_old hSb, hFb, lk_old hFb, c1, c2, gS, gF, s1, s2, s3, s4]
      refine Thn_n ?_
      have hwi : IntKind.i64.wrap ((i:Int)+1) = (i:Int)+1 := wi (by omega)
      refine ⟨i + 1, ⟨by omega, hnx⟩, by omega, ?_⟩
      try simp only [keepL, setAll, push_cast, simprocAttr, hz, hn, bne_self_eq_false, hSb, lk_old hSb, hFb, lk_old hFb, c1, c2, gS, gF, s1, s2, s3, s4, hwi]
      exact Weak.same (by simp only [Keeps, Tm.get_cons, Nat.reduceEqDiff, ↓reduceIte, if_true, if_false, ite_true, ite_false, true_and, and_true, and_self, reduceCtorEq, hwi]) (by first | rfl | simp only [Keeps, Tm.get_cons, Nat.reduceEqDiff, ↓reduceIte, if_true, if_false, ite_true, ite_false, true_and, and_true, and_self, reduceCtorEq, hwi])
    · have hr : filmR W H nD nD nD nD nD nD fS fF = false := by
        have h9 : ¬ ∀ j, j < nD → okP nD fS fF j := fun h => by have := h i hlt; unfold okP at this; omega
        unfold filmR; rw [decide_eq_false h9]; simp
      simp only [Classical.not_not] at s4
      refine AW.skip ?_
      refine Thn_n ?_
      refine hK _ _ ?_
      clear hK K
      refine AW.seq_k fun K hK => ?_
      refine AW.block ?_
      iterate 2
        refine AW.seq_k fun K hK => ?_
        refine AW.region (by decide) ?_
        simp only [push_cast, simprocAttr, hz, hn, bne_self_eq_false, hSb, lk_old hSb, hFb, lk_old hFb, c1, c2, gS, gF, s1, s2, s3, s4]
        refine Thn_n ?_
        refine hK _ _ ?_
        clear hK K
      refine AW.cond_t rfl ?_
      refine AW.seq_k fun K hK => ?_
      refine AW.region (by decide) ?_
      simp only [push_cast, simprocAttr, hz, hn, bne_self_eq_false, hSb, lk_old hSb, hFb, lk_old hFb, c1, c2, gS, gF, s1, s2, s3, s4]
      refine Thn_n ?_
      refine hK _ _ ?_
      clear hK K
      refine AW.ret ?_
      refine InB_r ?_
      refine Thn_r ?_
      refine Thn_r ?_
      refine InB_r ?_
      refine Thn_r ?_
      refine hQ _ _ _ ?_
      first | refine RetP.drop0 (Or.inr rfl) ?_ ?_ hwf | refine RetP.drop (Or.inr rfl) ?_ ?_ hwf
      · simp only [resA, resOne, resTv, AV.tv, push_cast, simprocAttr, hz, hn, bne_self_eq_false, hSb, lk_old hSb, hFb, lk_old hFb, c1, c2, gS, gF, s1, s2, s3, s4, hr]
      · rfl
    · have hr : filmR W H nD nD nD nD nD nD fS fF = false := by
        have h9 : ¬ ∀ j, j < nD → okP nD fS fF j := fun h => by have := h i hlt; unfold okP at this; omega
        unfold filmR; rw [decide_eq_false h9]; simp
      simp only [Classical.not_not] at s3
      refine AW.skip ?_
      refine Thn_n ?_
      refine hK _ _ ?_
      clear hK K
      refine AW.seq_k fun K hK => ?_
      refine AW.block ?_
      iterate 2
        refine AW.seq_k fun K hK => ?_
        refine AW.region (by decide) ?_
        simp only [push_cast, simprocAttr, hz, hn, bne_self_eq_false, hSb, lk_old hSb, hFb, lk_old hFb, c1, c2, gS, gF, s1, s2, s3]
        refine Thn_n ?_
        refine hK _ _ ?_
        clear hK K
      refine AW.cond_t rfl ?_
      refine AW.seq_k fun K hK => ?_
      refine AW.region (by decide) ?_
      simp only [push_cast, simprocAttr, hz, hn, bne_self_eq_false, hSb, lk_old hSb, hFb, lk_old hFb, c1, c2, gS, gF, s1, s2, s3]
      refine Thn_n ?_
      refine hK _ _ ?_
      clear hK K
      refine AW.ret ?_
      refine InB_r ?_
      refine Thn_r ?_
      refine Thn_r ?_
      refine InB_r ?_
      refine Thn_r ?_
      refine hQ _ _ _ ?_
      first | refine RetP.drop0 (Or.inr rfl) ?_ ?_ hwf | refine RetP.drop (Or.inr rfl) ?_ ?_ hwf
      · simp only [resA, resOne, resTv, AV.tv, push_cast, simprocAttr, hz, hn, bne_self_eq_false, hSb, lk_old hSb, hFb, lk_old hFb, c1, c2, gS, gF, s1, s2, s3, hr]
      · rfl
    · have hr : filmR W H nD nD nD nD nD nD fS fF = false := by
        have h9 : ¬ ∀ j, j < nD → okP nD fS fF j := fun h => by have := h i hlt; unfold okP at this; omega
        unfold filmR; rw [decide_eq_false h9]; simp
      simp only [Classical.not_not] at s2
      refine AW.skip ?_
      refine Thn_n ?_
      refine hK _ _ ?_
      clear hK K
      refine AW.seq_k fun K hK => ?_
      refine AW.block ?_
      iterate 2
        refine AW.seq_k fun K hK => ?_
        refine AW.region (by decide) ?_
        simp only [push_cast, simprocAttr, hz, hn, bne_self_eq_false, hSb, lk_old hSb, hFb, lk_old hFb, c1, c2, gS, gF, s1, s2]
        refine Thn_n ?_
        refine hK _ _ ?_
        clear hK K
      refine AW.cond_t rfl ?_
      refine AW.seq_k fun K hK => ?_
      refine AW.region (by decide) ?_
      simp only [push_cast, simprocAttr, hz, hn, bne_self_eq_false, hSb, lk_old hSb, hFb, lk_old hFb, c1, c2, gS, gF, s1, s2]
      refine Thn_n ?_
      refine hK _ _ ?_
      clear hK K
      refine AW.ret ?_
      refine InB_r ?_
      refine Thn_r ?_
      refine Thn_r ?_
      refine InB_r ?_
      refine Thn_r ?_
      refine hQ _ _ _ ?_
      first | refine RetP.drop0 (Or.inr rfl) ?_ ?_ hwf | refine RetP.drop (Or.inr rfl) ?_ ?_ hwf
      · simp only [resA, resOne, resTv, AV.tv, push_cast, simprocAttr, hz, hn, bne_self_eq_false, hSb, lk_old hSb, hFb, lk_old hFb, c1, c2, gS, gF, s1, s2, hr]
      · rfl
    · have hr : filmR W H nD nD nD nD nD nD fS fF = false := by
        have h9 : ¬ ∀ j, j < nD → okP nD fS fF j := fun h => by have := h i hlt; unfold okP at this; omega
        unfold filmR; rw [decide_eq_false h9]; simp
      simp only [Classical.not_not] at s1
      refine AW.skip ?_
      refine Thn_n ?_
      refine hK _ _ ?_
      clear hK K
      refine AW.seq_k fun K hK => ?_
      refine AW.block ?_
      iterate 2
        refine AW.seq_k fun K hK => ?_
        refine AW.region (by decide) ?_
        simp only [push_cast, simprocAttr, hz, hn, bne_self_eq_false, hSb, lk_old hSb, hFb, lk_old hFb, c1, c2, gS, gF, s1]
        refine Thn_n ?_
        refine hK _ _ ?_
        clear hK K
      refine AW.cond_t rfl ?_
      refine AW.seq_k fun K hK => ?_
      refine AW.region (by decide) ?_
      simp only [push_cast, simprocAttr, hz, hn, bne_self_eq_false, hSb, lk_old hSb, hFb, lk_old hFb, c1, c2, gS, gF, s1]
      refine Thn_n ?_
      refine hK _ _ ?_
      clear hK K
      refine AW.ret ?_
      refine InB_r ?_
      refine Thn_r ?_
      refine Thn_r ?_
      refine InB_r ?_
      refine Thn_r ?_
      refine hQ _ _ _ ?_
      first | refine RetP.drop0 (Or.inr rfl) ?_ ?_ hwf | refine RetP.drop (Or.inr rfl) ?_ ?_ hwf
      · simp only [resA, resOne, resTv, AV.tv, push_cast, simprocAttr, hz, hn, bne_self_eq_false, hSb, lk_old hSb, hFb, lk_old hFb, c1, c2, gS, gF, s1, hr]
      · rfl
  · have hin : nD = i := by have := of_decide_eq_false h48; omega
    subst hin
    have hr : filmR W H nD nD nD nD nD nD fS fF = true := by unfold filmR; rw [hz, decide_eq_true hl, decide_eq_true hall]; rfl
    refine AW.exit ?_
    refine Thn_e ?_
    clear hK K
    refine Thn_e ?_
    refine InB_here ?_
    refine Thn_n ?_
    refine hK _ _ ?_
    clear hK K
    refine AW.seq_k fun K hK => ?_
    refine AW.region (by decide) ?_
    simp only [push_cast, simprocAttr, hz, hn, bne_self_eq_false, hSb, lk_old hSb, hFb, lk_old hFb]
    refine Thn_n ?_
    refine hK _ _ ?_
    clear hK K
    refine AW.ret ?_
    refine hQ _ _ _ ?_
    first | refine RetP.drop0 (Or.inr rfl) ?_ ?_ hwf | refine RetP.drop (Or.inr rfl) ?_ ?_ hwf
    · simp only [resA, resOne, resTv, AV.tv, push_cast, simprocAttr, hz, hn, bne_self_eq_false, hSb, lk_old hSb, hFb, lk_old hFb, hr]
    · rfl
theorem filmRight_v (W H : Int) (rL nL rD nD rN nN rB nB rS nS rF nF vL vD vN vB vS vF : Nat) (fS fF : Nat → Int) (m : AMem) (pS : ∃ k ez, m[rS]? = some ⟨k, 3, vS, ez, il nS fS⟩) (pF : ∃ k ez, m[rF]? = some ⟨k, 3, vF, ez, il nF fF⟩) (bL : nL ≤ 1048576) : Ctr Tryd.prog 34 [.agg [.int .i64 W, .int .i64 H, .sl rL vL 0 nL, .sl rD vD 0 nD, .sl rN vN 0 nN, .sl rB vB 0 nB, .sl rS vS 0 nS, .sl rF vF 0 nF]] m (.one (.bool (filmR W H nL nD nN nB nS nF fS fF))) m := by
  cases hz : shR W H nL
  · exact filmRight_a W H rL nL rD nD rN nN rB nB rS nS rF nF vL vD vN vB vS vF fS fF m hz
  · by_cases hl : lenR nL nD nN nB nS nF
    · exact filmRight_c W H rL nL rD nD rN nN rB nB rS nS rF nF vL vD vN vB vS vF fS fF m hz hl pS pF bL
    · exact filmRight_b W H rL nL rD nD rN nN rB nB rS nS rF nF vL vD vN vB vS vF fS fF m hz hl
theorem refRight_a (W H : Int) (rL nL rD nD rN nN rB nB rS nS rF nF vL vD vN vB vS vF : Nat) (fS fF : Nat → Int) (m : AMem) (hz : shR W H nL = false) : Ctr Tryd.prog 13 [.agg [.int .i64 W, .int .i64 H, .sl rL vL 0 nL, .sl rD vD 0 nD, .sl rN vN 0 nN, .sl rB vB 0 nB, .sl rS vS 0 nS, .sl rF vF 0 nF]] m (.one (.bool (filmR W H nL nD nN nB nS nF fS fF))) m := by
  refine Ctr.enter Tryd.func13 rfl (by decide) (rs := [.tmp 2]) (nt := 85) rfl rfl fun hwf Q hQ => ?_
  refine AW.seq_k fun K hK => ?_
  refine AW.region (by decide) ?_
  simp only [push_cast, simprocAttr, hz]
  refine Thn_n ?_
  refine hK _ _ ?_
  clear hK K
  refine AW.seq_k fun K hK => ?_
  refine AW.seq_k fun K hK => ?_
  refine AW.region (by decide) ?_
  simp only [push_cast, simprocAttr, hz]
  refine CThen.by (refSheet_c _ _ _ _ _ _) ?_
  simp only [push_cast, simprocAttr, hz]
  refine Thn_n ?_
  refine hK _ _ ?_
  clear hK K
  refine AW.cond_t rfl ?_
  refine AW.seq_k fun K hK => ?_
  refine AW.region (by decide) ?_
  simp only [push_cast, simprocAttr, hz]
  refine Thn_n ?_
  refine hK _ _ ?_
  clear hK K
  refine AW.ret ?_
  refine Thn_r ?_
  refine hQ _ _ _ ?_
  first | refine RetP.drop0 (Or.inr rfl) ?_ ?_ hwf | refine RetP.drop (Or.inr rfl) ?_ ?_ hwf
  · simp only [resA, resOne, resTv, AV.tv, push_cast, simprocAttr, hz, filmR, hz, Bool.false_and]
  · rfl
theorem refRight_b (W H : Int) (rL nL rD nD rN nN rB nB rS nS rF nF vL vD vN vB vS vF : Nat) (fS fF : Nat → Int) (m : AMem) (hz : shR W H nL = true) (hl : ¬ lenR nL nD nN nB nS nF) : Ctr Tryd.prog 13 [.agg [.int .i64 W, .int .i64 H, .sl rL vL 0 nL, .sl rD vD 0 nD, .sl rN vN 0 nN, .sl rB vB 0 nB, .sl rS vS 0 nS, .sl rF vF 0 nF]] m (.one (.bool (filmR W H nL nD nN nB nS nF fS fF))) m := by
  refine Ctr.enter Tryd.func13 rfl (by decide) (rs := [.tmp 2]) (nt := 85) rfl rfl fun hwf Q hQ => ?_
  have hn := shR_wh hz
  have hr : filmR W H nL nD nN nB nS nF fS fF = false := by unfold filmR; rw [decide_eq_false hl]; simp
  rcases chain5 (((nD : Int) != (nL : Int)) = false) (((nN : Int) != (nL : Int)) = false) (((nB : Int) != (nL : Int)) = false) (((nS : Int) != (nL : Int)) = false) (((nF : Int) != (nL : Int)) = false) with ⟨s1, s2, s3, s4, s5⟩ | ⟨s1, s2, s3, s4, s5⟩ | ⟨s1, s2, s3, s4, s5⟩ | ⟨s1, s2, s3, s4, s5⟩ | ⟨s1, s2, s3, s4, s5⟩ | ⟨s1, s2, s3, s4, s5⟩
  · exact absurd (by unfold lenR; simp only [bne_eq_false_iff_eq, Int.ofNat_inj] at s1 s2 s3 s4 s5; omega) hl
  all_goals (
  try simp only [Bool.not_eq_true, Bool.not_eq_false, Classical.not_not] at s1 s2 s3 s4 s5
  refine AW.seq_k fun K hK => ?_
  refine AW.region (by decide) ?_
  simp only [push_cast, simprocAttr, s1, s2, s3, s4, s5, hz, hn]
  refine Thn_n ?_
  refine hK _ _ ?_
  clear hK K
  refine AW.seq_k fun K hK => ?_
  refine AW.seq_k fun K hK => ?_
  refine AW.region (by decide) ?_
  simp only [push_cast, simprocAttr, s1, s2, s3, s4, s5, hz, hn]
  refine CThen.by (refSheet_c _ _ _ _ _ _) ?_
  simp only [push_cast, simprocAttr, s1, s2, s3, s4, s5, hz, hn]
  refine Thn_n ?_
  refine hK _ _ ?_
  clear hK K
  refine AW.cond_f rfl ?_
  refine AW.skip ?_
  refine Thn_n ?_
  refine hK _ _ ?_
  clear hK K
  refine AW.seq_k fun K hK => ?_
  refine AW.region (by decide) ?_
  simp only [push_cast, simprocAttr, s1, s2, s3, s4, s5, hz, hn]
  refine Thn_n ?_
  refine hK _ _ ?_
  clear hK K
  refine AW.seq_k fun K hK => ?_
  refine AW.seq_k fun K hK => ?_
  refine AW.region (by decide) ?_
  simp only [push_cast, simprocAttr, s1, s2, s3, s4, s5, hz, hn]
  refine Thn_n ?_
  refine hK _ _ ?_
  clear hK K
  refine AW.cond_t rfl ?_
  refine AW.seq_k fun K hK => ?_
  refine AW.region (by decide) ?_
  simp only [push_cast, simprocAttr, s1, s2, s3, s4, s5, hz, hn]
  refine Thn_n ?_
  refine hK _ _ ?_
  clear hK K
  refine AW.ret ?_
  refine Thn_r ?_
  refine hQ _ _ _ ?_
  first | refine RetP.drop0 (Or.inr rfl) ?_ ?_ hwf | refine RetP.drop (Or.inr rfl) ?_ ?_ hwf
  · simp only [resA, resOne, resTv, AV.tv, push_cast, simprocAttr, s1, s2, s3, s4, s5, hz, hn, hr]
  · rfl
  )
theorem refRight_c (W H : Int) (rL nL rD nD rN nN rB nB rS nS rF nF vL vD vN vB vS vF : Nat) (fS fF : Nat → Int) (m : AMem) (hz : shR W H nL = true) (hl : lenR nL nD nN nB nS nF) (pS : ∃ k ez, m[rS]? = some ⟨k, 3, vS, ez, il nS fS⟩) (pF : ∃ k ez, m[rF]? = some ⟨k, 3, vF, ez, il nF fF⟩) (bL : nL ≤ 1048576) : Ctr Tryd.prog 13 [.agg [.int .i64 W, .int .i64 H, .sl rL vL 0 nL, .sl rD vD 0 nD, .sl rN vN 0 nN, .sl rB vB 0 nB, .sl rS vS 0 nS, .sl rF vF 0 nF]] m (.one (.bool (filmR W H nL nD nN nB nS nF fS fF))) m := by
  refine Ctr.enter Tryd.func13 rfl (by decide) (rs := [.tmp 2]) (nt := 85) rfl rfl fun hwf Q hQ => ?_
  have hn := shR_wh hz
  obtain ⟨e1, e2, e3, e4, e5⟩ := id hl
  subst e2; subst e3; subst e4; subst e5; subst e1
  obtain ⟨kS, eS, hSb⟩ := pS
  obtain ⟨kF, eF, hFb⟩ := pF
  have lS := get_lt hSb
  have lF := get_lt hFb
  refine AW.seq_k fun K hK => ?_
  refine AW.region (by decide) ?_
  simp only [push_cast, simprocAttr, hz, hn, bne_self_eq_false, hSb, lk_old hSb, hFb, lk_old hFb]
  refine Thn_n ?_
  refine hK _ _ ?_
  clear hK K
  refine AW.seq_k fun K hK => ?_
  refine AW.seq_k fun K hK => ?_
  refine AW.region (by decide) ?_
  simp only [push_cast, simprocAttr, hz, hn, bne_self_eq_false, hSb, lk_old hSb, hFb, lk_old hFb]
  refine CThen.by (refSheet_c _ _ _ _ _ _) ?_
  simp only [push_cast, simprocAttr, hz, hn, bne_self_eq_false, hSb, lk_old hSb, hFb, lk_old hFb]
  refine Thn_n ?_
  refine hK _ _ ?_
  clear hK K
  refine AW.cond_f rfl ?_
  refine AW.skip ?_
  refine Thn_n ?_
  refine hK _ _ ?_
  clear hK K
  refine AW.seq_k fun K hK => ?_
  refine AW.region (by decide) ?_
  simp only [push_cast, simprocAttr, hz, hn, bne_self_eq_false, hSb, lk_old hSb, hFb, lk_old hFb]
  refine Thn_n ?_
  refine hK _ _ ?_
  clear hK K
  refine AW.seq_k fun K hK => ?_
  refine AW.seq_k fun K hK => ?_
  refine AW.region (by decide) ?_
  simp only [push_cast, simprocAttr, hz, hn, bne_self_eq_false, hSb, lk_old hSb, hFb, lk_old hFb]
  refine Thn_n ?_
  refine hK _ _ ?_
  clear hK K
  refine AW.cond_f rfl ?_
  refine AW.skip ?_
  refine Thn_n ?_
  refine hK _ _ ?_
  clear hK K
  refine AW.seq_k fun K hK => ?_
  refine AW.seq_k fun K hK => ?_
  refine AW.region (by decide) ?_
  simp only [push_cast, simprocAttr, hz, hn, bne_self_eq_false, hSb, lk_old hSb, hFb, lk_old hFb]
  refine Thn_n ?_
  refine hK _ _ ?_
  clear hK K
  refine AW.block ?_
  refine AW.loopK [1, 3] (fun i => i ≤ nD ∧ ∀ j, j < i → okP nD fS fF j) (fun i => [(4, .one (.int .i64 (i : Int)))]) (fun i => []) (fun i => nD - i) 0 ⟨by omega, fun j hj => by omega⟩ ?_ ?_ fun i hi9 => ?_
  · first | rfl | (simp only [Keeps, Tm.get_cons, Nat.reduceEqDiff, ↓reduceIte, if_true, if_false, ite_true, ite_false, true_and, and_true, and_self, reduceCtorEq] <;> rfl)
  · first | rfl | (simp only [setAll, push_cast, simprocAttr, hz, hn, bne_self_eq_false, hSb, lk_old hSb, hFb, lk_old hFb] <;> rfl)
  obtain ⟨hiN, hall⟩ := hi9
  try simp only [keepL, setAll, push_cast, simprocAttr, hz, hn, bne_self_eq_false, hSb, lk_old hSb, hFb, lk_old hFb]
  refine AW.seq_k fun K hK => ?_
  refine AW.seq_k fun K hK => ?_
  refine AW.region (by decide) ?_
  simp only [push_cast, simprocAttr, hz, hn, bne_self_eq_false, hSb, lk_old hSb, hFb, lk_old hFb]
  refine Thn_n ?_
  refine hK _ _ ?_
  clear hK K
  refine AW.cond rfl (fun h51 => ?_) (fun h51 => ?_)
  · have hlt : i < nD := by have := of_decide_eq_true h51; omega
    have c1 : (0 : Int) ≤ (i : Int) := by omega
    have c2 : (i : Int) < (nD : Int) := by omega
    have gS := il_get (f := fS) hlt
    have gF := il_get (f := fF) hlt
    rcases chain4 (¬ fS i < -1) (¬ 128 ≤ fS i) (¬ fF i < -1) (¬ (nD : Int) ≤ fF i) with ⟨s1, s2, s3, s4⟩ | ⟨s1, s2, s3, s4⟩ | ⟨s1, s2, s3⟩ | ⟨s1, s2⟩ | s1
    · have hnx : ∀ j, j < i + 1 → okP nD fS fF j := fun j hj => by
        rcases Nat.lt_or_ge j i with h | h
        · exact hall j h
        · rw [show j = i by omega]; exact ⟨s1, s2, s3, s4⟩
      refine AW.skip ?_
      refine Thn_n ?_
      refine hK _ _ ?_
      clear hK K
      refine AW.seq_k fun K hK => ?_
      refine AW.block ?_
      refine AW.seq_k fun K hK => ?_
      refine AW.region (by decide) ?_
      simp only [push_cast, simprocAttr, hz, hn, bne_self_eq_false, hSb, lk_old hSb, hFb, lk_old hFb, c1, c2, gS, gF, s1, s2, s3, s4]
      refine Thn_n ?_
      refine hK _ _ ?_
      clear hK K
      refine AW.cond_f rfl ?_
      refine AW.skip ?_
      refine InB_n ?_
      refine Thn_n ?_
      refine hK _ _ ?_
      clear hK K
      refine AW.region (by decide) ?_
      simp only [push_cast, simprocAttr, hz, hn, bne_self_eq_false, hSb, lk_old hSb, hFb, lk_old hFb, c1, c2, gS, gF, s1, s2, s3, s4]
      refine Thn_n ?_
      have hwi : IntKind.i64.wrap ((i:Int)+1) = (i:Int)+1 := wi (by omega)
      refine ⟨i + 1, ⟨by omega, hnx⟩, by omega, ?_⟩
      try simp only [keepL, setAll, push_cast, simprocAttr, hz, hn, bne_self_eq_false, hSb, lk_old hSb, hFb, lk_old hFb, c1, c2, gS, gF, s1, s2, s3, s4, hwi]
      exact Weak.same (by simp only [Keeps, Tm.get_cons, Nat.reduceEqDiff, ↓reduceIte, if_true, if_false, ite_true, ite_false, true_and, and_true, and_self, reduceCtorEq, hwi]) (by first | rfl | simp only [Keeps, Tm.get_cons, Nat.reduceEqDiff, ↓reduceIte, if_true, if_false, ite_true, ite_false, true_and, and_true, and_self, reduceCtorEq, hwi])
    · have hr : filmR W H nD nD nD nD nD nD fS fF = false := by
        have h9 : ¬ ∀ j, j < nD → okP nD fS fF j := fun h => by have := h i hlt; unfold okP at this; omega
        unfold filmR; rw [decide_eq_false h9]; simp
      simp only [Classical.not_not] at s4
      refine AW.skip ?_
      refine Thn_n ?_
      refine hK _ _ ?_
      clear hK K
      refine AW.seq_k fun K hK => ?_
      refine AW.block ?_
      refine AW.seq_k fun K hK => ?_
      refine AW.region (by decide) ?_
      simp only [push_cast, simprocAttr, hz, hn, bne_self_eq_false, hSb, lk_old hSb, hFb, lk_old hFb, c1, c2, gS, gF, s1, s2, s3, s4]
      refine Thn_n ?_
      refine hK _ _ ?_
      clear hK K
      refine AW.cond_t rfl ?_
      refine AW.seq_k fun K hK => ?_
      refine AW.region (by decide) ?_
      simp only [push_cast, simprocAttr, hz, hn, bne_self_eq_false, hSb, lk_old hSb, hFb, lk_old hFb, c1, c2, gS, gF, s1, s2, s3, s4]
      refine Thn_n ?_
      refine hK _ _ ?_
      clear hK K
      refine AW.ret ?_
      refine InB_r ?_
      refine Thn_r ?_
      refine Thn_r ?_
      refine InB_r ?_
      refine Thn_r ?_
      refine hQ _ _ _ ?_
      first | refine RetP.drop0 (Or.inr rfl) ?_ ?_ hwf | refine RetP.drop (Or.inr rfl) ?_ ?_ hwf
      · simp only [resA, resOne, resTv, AV.tv, push_cast, simprocAttr, hz, hn, bne_self_eq_false, hSb, lk_old hSb, hFb, lk_old hFb, c1, c2, gS, gF, s1, s2, s3, s4, hr]
      · rfl
    · have hr : filmR W H nD nD nD nD nD nD fS fF = false := by
        have h9 : ¬ ∀ j, j < nD → okP nD fS fF j := fun h => by have := h i hlt; unfold okP at this; omega
        unfold filmR; rw [decide_eq_false h9]; simp
      simp only [Classical.not_not] at s3
      refine AW.skip ?_
      refine Thn_n ?_
      refine hK _ _ ?_
      clear hK K
      refine AW.seq_k fun K hK => ?_
      refine AW.block ?_
      refine AW.seq_k fun K hK => ?_
      refine AW.region (by decide) ?_
      simp only [push_cast, simprocAttr, hz, hn, bne_self_eq_false, hSb, lk_old hSb, hFb, lk_old hFb, c1, c2, gS, gF, s1, s2, s3]
      refine Thn_n ?_
      refine hK _ _ ?_
      clear hK K
      refine AW.cond_t rfl ?_
      refine AW.seq_k fun K hK => ?_
      refine AW.region (by decide) ?_
      simp only [push_cast, simprocAttr, hz, hn, bne_self_eq_false, hSb, lk_old hSb, hFb, lk_old hFb, c1, c2, gS, gF, s1, s2, s3]
      refine Thn_n ?_
      refine hK _ _ ?_
      clear hK K
      refine AW.ret ?_
      refine InB_r ?_
      refine Thn_r ?_
      refine Thn_r ?_
      refine InB_r ?_
      refine Thn_r ?_
      refine hQ _ _ _ ?_
      first | refine RetP.drop0 (Or.inr rfl) ?_ ?_ hwf | refine RetP.drop (Or.inr rfl) ?_ ?_ hwf
      · simp only [resA, resOne, resTv, AV.tv, push_cast, simprocAttr, hz, hn, bne_self_eq_false, hSb, lk_old hSb, hFb, lk_old hFb, c1, c2, gS, gF, s1, s2, s3, hr]
      · rfl
    · have hr : filmR W H nD nD nD nD nD nD fS fF = false := by
        have h9 : ¬ ∀ j, j < nD → okP nD fS fF j := fun h => by have := h i hlt; unfold okP at this; omega
        unfold filmR; rw [decide_eq_false h9]; simp
      simp only [Classical.not_not] at s2
      refine AW.skip ?_
      refine Thn_n ?_
      refine hK _ _ ?_
      clear hK K
      refine AW.seq_k fun K hK => ?_
      refine AW.block ?_
      refine AW.seq_k fun K hK => ?_
      refine AW.region (by decide) ?_
      simp only [push_cast, simprocAttr, hz, hn, bne_self_eq_false, hSb, lk_old hSb, hFb, lk_old hFb, c1, c2, gS, gF, s1, s2]
      refine Thn_n ?_
      refine hK _ _ ?_
      clear hK K
      refine AW.cond_t rfl ?_
      refine AW.seq_k fun K hK => ?_
      refine AW.region (by decide) ?_
      simp only [push_cast, simprocAttr, hz, hn, bne_self_eq_false, hSb, lk_old hSb, hFb, lk_old hFb, c1, c2, gS, gF, s1, s2]
      refine Thn_n ?_
      refine hK _ _ ?_
      clear hK K
      refine AW.ret ?_
      refine InB_r ?_
      refine Thn_r ?_
      refine Thn_r ?_
      refine InB_r ?_
      refine Thn_r ?_
      refine hQ _ _ _ ?_
      first | refine RetP.drop0 (Or.inr rfl) ?_ ?_ hwf | refine RetP.drop (Or.inr rfl) ?_ ?_ hwf
      · simp only [resA, resOne, resTv, AV.tv, push_cast, simprocAttr, hz, hn, bne_self_eq_false, hSb, lk_old hSb, hFb, lk_old hFb, c1, c2, gS, gF, s1, s2, hr]
      · rfl
    · have hr : filmR W H nD nD nD nD nD nD fS fF = false := by
        have h9 : ¬ ∀ j, j < nD → okP nD fS fF j := fun h => by have := h i hlt; unfold okP at this; omega
        unfold filmR; rw [decide_eq_false h9]; simp
      simp only [Classical.not_not] at s1
      refine AW.skip ?_
      refine Thn_n ?_
      refine hK _ _ ?_
      clear hK K
      refine AW.seq_k fun K hK => ?_
      refine AW.block ?_
      refine AW.seq_k fun K hK => ?_
      refine AW.region (by decide) ?_
      simp only [push_cast, simprocAttr, hz, hn, bne_self_eq_false, hSb, lk_old hSb, hFb, lk_old hFb, c1, c2, gS, gF, s1]
      refine Thn_n ?_
      refine hK _ _ ?_
      clear hK K
      refine AW.cond_t rfl ?_
      refine AW.seq_k fun K hK => ?_
      refine AW.region (by decide) ?_
      simp only [push_cast, simprocAttr, hz, hn, bne_self_eq_false, hSb, lk_old hSb, hFb, lk_old hFb, c1, c2, gS, gF, s1]
      refine Thn_n ?_
      refine hK _ _ ?_
      clear hK K
      refine AW.ret ?_
      refine InB_r ?_
      refine Thn_r ?_
      refine Thn_r ?_
      refine InB_r ?_
      refine Thn_r ?_
      refine hQ _ _ _ ?_
      first | refine RetP.drop0 (Or.inr rfl) ?_ ?_ hwf | refine RetP.drop (Or.inr rfl) ?_ ?_ hwf
      · simp only [resA, resOne, resTv, AV.tv, push_cast, simprocAttr, hz, hn, bne_self_eq_false, hSb, lk_old hSb, hFb, lk_old hFb, c1, c2, gS, gF, s1, hr]
      · rfl
  · have hin : nD = i := by have := of_decide_eq_false h51; omega
    subst hin
    have hr : filmR W H nD nD nD nD nD nD fS fF = true := by unfold filmR; rw [hz, decide_eq_true hl, decide_eq_true hall]; rfl
    refine AW.exit ?_
    refine Thn_e ?_
    clear hK K
    refine Thn_e ?_
    refine InB_here ?_
    refine Thn_n ?_
    refine hK _ _ ?_
    clear hK K
    refine AW.seq_k fun K hK => ?_
    refine AW.region (by decide) ?_
    simp only [push_cast, simprocAttr, hz, hn, bne_self_eq_false, hSb, lk_old hSb, hFb, lk_old hFb]
    refine Thn_n ?_
    refine hK _ _ ?_
    clear hK K
    refine AW.ret ?_
    refine hQ _ _ _ ?_
    first | refine RetP.drop0 (Or.inr rfl) ?_ ?_ hwf | refine RetP.drop (Or.inr rfl) ?_ ?_ hwf
    · simp only [resA, resOne, resTv, AV.tv, push_cast, simprocAttr, hz, hn, bne_self_eq_false, hSb, lk_old hSb, hFb, lk_old hFb, hr]
    · rfl
theorem refRight_v (W H : Int) (rL nL rD nD rN nN rB nB rS nS rF nF vL vD vN vB vS vF : Nat) (fS fF : Nat → Int) (m : AMem) (pS : ∃ k ez, m[rS]? = some ⟨k, 3, vS, ez, il nS fS⟩) (pF : ∃ k ez, m[rF]? = some ⟨k, 3, vF, ez, il nF fF⟩) (bL : nL ≤ 1048576) : Ctr Tryd.prog 13 [.agg [.int .i64 W, .int .i64 H, .sl rL vL 0 nL, .sl rD vD 0 nD, .sl rN vN 0 nN, .sl rB vB 0 nB, .sl rS vS 0 nS, .sl rF vF 0 nF]] m (.one (.bool (filmR W H nL nD nN nB nS nF fS fF))) m := by
  cases hz : shR W H nL
  · exact refRight_a W H rL nL rD nD rN nN rB nB rS nS rF nF vL vD vN vB vS vF fS fF m hz
  · by_cases hl : lenR nL nD nN nB nS nF
    · exact refRight_c W H rL nL rD nD rN nN rB nB rS nS rF nF vL vD vN vB vS vF fS fF m hz hl pS pF bL
    · exact refRight_b W H rL nL rD nD rN nN rB nB rS nS rF nF vL vD vN vB vS vF fS fF m hz hl
theorem filmRight_all (W H : Int) (rL nL rD nD rN nN rB nB rS nS rF nF : Nat) (fS fF : Nat → Int) (m : AMem) (pS : IRow m 3 rS nS fS) (pF : IRow m 3 rF nF fF) (bL : nL ≤ 1048576) : Ctr Tryd.prog 34 [.agg [.int .i64 W, .int .i64 H, .sl rL 0 0 nL, .sl rD 0 0 nD, .sl rN 0 0 nN, .sl rB 0 0 nB, .sl rS 0 0 nS, .sl rF 0 0 nF]] m (.one (.bool (filmR W H nL nD nN nB nS nF fS fF))) m := filmRight_v W H rL nL rD nD rN nN rB nB rS nS rF nF 0 0 0 0 0 0 fS fF m pS.hb pF.hb bL
theorem refRight_all (W H : Int) (rL nL rD nD rN nN rB nB rS nS rF nF : Nat) (fS fF : Nat → Int) (m : AMem) (pS : IRow m 3 rS nS fS) (pF : IRow m 3 rF nF fF) (bL : nL ≤ 1048576) : Ctr Tryd.prog 13 [.agg [.int .i64 W, .int .i64 H, .sl rL 0 0 nL, .sl rD 0 0 nD, .sl rN 0 0 nN, .sl rB 0 0 nB, .sl rS 0 0 nS, .sl rF 0 0 nF]] m (.one (.bool (filmR W H nL nD nN nB nS nF fS fF))) m := refRight_v W H rL nL rD nD rN nN rB nB rS nS rF nF 0 0 0 0 0 0 fS fF m pS.hb pF.hb bL
end Go.Proofs.YtbigijnadkeecaaDoor

set_option linter.unusedSimpArgs false
set_option linter.unusedVariables false
set_option maxRecDepth 100000
set_option maxHeartbeats 4000000
namespace Go.Proofs.YtbigijnadkeecaaDoor
open Go Go.Eng

/-- The cells of so many dots. -/
def d8 : Nat → (Nat → Nat → Int) → List CV
  | 0, _ => []
  | n + 1, G => d8 n G ++ [.int .u8 (G n 0), .int .u8 (G n 1), .int .u8 (G n 2)]
theorem d8_len : ∀ (n : Nat) (G : Nat → Nat → Int), (d8 n G).length = n * 3
  | 0, _ => rfl
  | n + 1, G => by simp only [d8, List.length_append, d8_len n G, List.length_cons, List.length_nil]; omega
theorem d8_get : ∀ {n : Nat} {G : Nat → Nat → Int} {i k : Nat}, i < n → k < 3 → (d8 n G)[i * 3 + k]? = some (.int .u8 (G i k))
  | n + 1, G, i, k, hi, hk => by
    simp only [d8]
    rcases Nat.lt_or_ge i n with h | h
    · rw [List.getElem?_append_left (by rw [d8_len]; omega)]; exact d8_get h hk
    · have e : i = n := by omega
      subst e
      rw [List.getElem?_append_right (by rw [d8_len]; omega), d8_len, show i * 3 + k - i * 3 = k by omega]
      match k, hk with
      | 0, _ => rfl
      | 1, _ => rfl
      | 2, _ => rfl
theorem d8_get0 {n : Nat} {G : Nat → Nat → Int} {i : Nat} (hi : i < n) : (d8 n G)[i * 3]? = some (.int .u8 (G i 0)) := d8_get (k := 0) hi (by omega)
theorem d8_get1 {n : Nat} {G : Nat → Nat → Int} {i : Nat} (hi : i < n) : (d8 n G)[i * 3 + 1]? = some (.int .u8 (G i 1)) := d8_get hi (by omega)
theorem d8_get2 {n : Nat} {G : Nat → Nat → Int} {i : Nat} (hi : i < n) : (d8 n G)[i * 3 + 2]? = some (.int .u8 (G i 2)) := d8_get hi (by omega)
theorem d8_vals : ∀ (n : Nat) (G : Nat → Nat → Int), (d8 n G).all CV.isVal = true
  | 0, _ => rfl
  | n + 1, G => by simp only [d8, List.all_append, d8_vals n G, List.all_cons, List.all_nil, CV.isVal]; rfl
theorem d8_below : ∀ (L n : Nat) (G : Nat → Nat → Int), (d8 n G).all (CV.below L) = true
  | _, 0, _ => rfl
  | L, n + 1, G => by simp only [d8, List.all_append, d8_below L n G, List.all_cons, List.all_nil, CV.below]; rfl
theorem d8_congr : ∀ {n : Nat} {G H : Nat → Nat → Int}, (∀ i k, i < n → k < 3 → G i k = H i k) → d8 n G = d8 n H
  | 0, _, _, _ => rfl
  | n + 1, G, H, h => by simp only [d8]; rw [d8_congr fun i k hi hk => h i k (by omega) hk, h n 0 (by omega) (by omega), h n 1 (by omega) (by omega), h n 2 (by omega) (by omega)]
theorem d8_of {cells : List CV} {n : Nat} {G : Nat → Nat → Int} (hl : cells.length = n * 3) (h : ∀ i k, i < n → k < 3 → cells[i * 3 + k]? = some (.int .u8 (G i k))) : cells = d8 n G := by
  refine ext_get fun j => ?_
  rcases Nat.lt_or_ge j (n * 3) with hj | hj
  · have e : j = j / 3 * 3 + j % 3 := by omega
    rw [e, h (j / 3) (j % 3) (by omega) (by omega), d8_get (by omega) (by omega)]
  · rw [List.getElem?_eq_none (by omega), List.getElem?_eq_none (by rw [d8_len]; omega)]

/-- May a picture be? -/
def picR (W H : Int) (n : Nat) : Bool := szR W H && ((n : Int) == IntKind.i64.wrap (W * H))

theorem d8_at {n : Nat} {G : Nat → Nat → Int} {i : Nat} (hi : i < n) : ((d8 n G).drop (i * 3)).take 3 = [.int .u8 (G i 0), .int .u8 (G i 1), .int .u8 (G i 2)] := by
  refine List.ext_getElem? fun j => ?_
  rw [List.getElem?_take]
  split
  · rename_i hj
    rw [List.getElem?_drop, d8_get hi hj]
    match j, hj with
    | 0, _ => rfl
    | 1, _ => rfl
    | 2, _ => rfl
  · rename_i hj
    rw [List.getElem?_eq_none (by simp; omega)]
theorem d8_snoc {n : Nat} {G : Nat → Nat → Int} : d8 n G ++ [.int .u8 (G n 0), .int .u8 (G n 1), .int .u8 (G n 2)] = d8 (n + 1) G := rfl
/-- Light: how it is shown. -/
noncomputable def rootI (a : Int) : Int := if h : 0 < heldI a then ((Classical.choose (root_of h) : Nat) : Int) else 0
def posI (x : Int) : Int := if x < 0 then 0 else x
noncomputable def toneI (x : Int) : Int := rootI (divI (posI (heldI x)) (addI (posI (heldI x)) 65536))
def shadeI (y : Int) : Int := IntKind.u8.wrap ((255 * unitI y + 32768) / 65536)
noncomputable def showI (x : Int) : Int := shadeI (toneI (posI x))
theorem root_f (a : Int) (m : AMem) : Ctr Tryd.prog 67 [.one (.int .i64 a)] m (.one (.int .i64 (rootI a))) m := by
  unfold rootI
  by_cases h : 0 < heldI a
  · rw [dif_pos h]; exact root_c a _ m (Classical.choose_spec (root_of h))
  · rw [dif_neg h]; exact root_0 a m h
theorem rroot_f (a : Int) (m : AMem) : Ctr Tryd.prog 68 [.one (.int .i64 a)] m (.one (.int .i64 (rootI a))) m := by
  unfold rootI
  by_cases h : 0 < heldI a
  · rw [dif_pos h]; exact rroot_c a _ m (Classical.choose_spec (root_of h))
  · rw [dif_neg h]; exact rroot_0 a m h
theorem pos_max (x : Int) : Eng.maxI 0 x = posI x := by unfold Eng.maxI posI; split <;> split <;> omega
theorem pos_max2 (x : Int) : Eng.maxI x 0 = posI x := rfl
theorem tone_c (a : Int) (m : AMem) : Ctr Tryd.prog 51 [.one (.int .i64 a)] m (.one (.int .i64 (toneI a))) m := by
  refine Ctr.enter Tryd.func51 rfl (by decide) (rs := [.tmp 2]) (nt := 11) rfl rfl fun hwf Q hQ => ?_
  refine AW.seq_k fun K hK => ?_
  refine AW.region (by decide) ?_
  simp only [push_cast, simprocAttr, pos_max]
  refine Thn_n ?_
  refine hK _ _ ?_
  clear hK K
  refine AW.seq_k fun K hK => ?_
  refine AW.region (by decide) ?_
  simp only [push_cast, simprocAttr, pos_max]
  refine CThen.by (clamp_c _ _) ?_
  simp only [push_cast, simprocAttr, pos_max]
  refine Thn_n ?_
  refine hK _ _ ?_
  clear hK K
  refine AW.seq_k fun K hK => ?_
  refine AW.region (by decide) ?_
  simp only [push_cast, simprocAttr, pos_max]
  refine CThen.by (add_c _ _ _) ?_
  simp only [push_cast, simprocAttr, pos_max]
  refine CThen.by (div_c _ _ _) ?_
  simp only [push_cast, simprocAttr, pos_max]
  refine CThen.by (root_f _ _) ?_
  simp only [push_cast, simprocAttr, pos_max]
  refine Thn_n ?_
  refine hK _ _ ?_
  clear hK K
  refine AW.ret ?_
  refine hQ _ _ _ ?_
  first | refine RetP.drop0 (Or.inr rfl) ?_ ?_ hwf | refine RetP.drop (Or.inr rfl) ?_ ?_ hwf
  · simp only [resA, resOne, resTv, AV.tv, push_cast, simprocAttr, pos_max, toneI]
  · rfl
theorem rtone_c (a : Int) (m : AMem) : Ctr Tryd.prog 58 [.one (.int .i64 a)] m (.one (.int .i64 (toneI a))) m := by
  refine Ctr.enter Tryd.func58 rfl (by decide) (rs := [.tmp 2]) (nt := 12) rfl rfl fun hwf Q hQ => ?_
  refine AW.seq_k fun K hK => ?_
  refine AW.region (by decide) ?_
  simp only [push_cast, simprocAttr]
  refine Thn_n ?_
  refine hK _ _ ?_
  clear hK K
  refine AW.seq_k fun K hK => ?_
  refine AW.region (by decide) ?_
  simp only [push_cast, simprocAttr]
  refine CThen.by (held_c _ _) ?_
  simp only [push_cast, simprocAttr]
  refine Thn_n ?_
  refine hK _ _ ?_
  clear hK K
  refine AW.seq_k fun K hK => ?_
  refine AW.seq_k fun K hK => ?_
  refine AW.region (by decide) ?_
  simp only [push_cast, simprocAttr]
  refine Thn_n ?_
  refine hK _ _ ?_
  clear hK K
  refine AW.cond rfl (fun h6 => ?_) (fun h6 => ?_)
  · have hp : posI (heldI a) = 0 := by unfold posI; rw [if_pos (of_decide_eq_true h6)]
    refine AW.region (by decide) ?_
    simp only [push_cast, simprocAttr]
    refine Thn_n ?_
    refine hK _ _ ?_
    clear hK K
    refine AW.seq_k fun K hK => ?_
    refine AW.region (by decide) ?_
    simp only [push_cast, simprocAttr]
    refine CThen.by (radd_c _ _ _) ?_
    simp only [push_cast, simprocAttr]
    refine CThen.by (rdiv_c _ _ _) ?_
    simp only [push_cast, simprocAttr]
    refine CThen.by (rroot_f _ _) ?_
    simp only [push_cast, simprocAttr]
    refine Thn_n ?_
    refine hK _ _ ?_
    clear hK K
    refine AW.ret ?_
    refine hQ _ _ _ ?_
    first | refine RetP.drop0 (Or.inr rfl) ?_ ?_ hwf | refine RetP.drop (Or.inr rfl) ?_ ?_ hwf
    · simp only [resA, resOne, resTv, AV.tv, push_cast, simprocAttr, toneI, hp]
    · rfl
  · have hp : posI (heldI a) = heldI a := by unfold posI; rw [if_neg (of_decide_eq_false h6)]
    refine AW.skip ?_
    refine Thn_n ?_
    refine hK _ _ ?_
    clear hK K
    refine AW.seq_k fun K hK => ?_
    refine AW.region (by decide) ?_
    simp only [push_cast, simprocAttr]
    refine CThen.by (radd_c _ _ _) ?_
    simp only [push_cast, simprocAttr]
    refine CThen.by (rdiv_c _ _ _) ?_
    simp only [push_cast, simprocAttr]
    refine CThen.by (rroot_f _ _) ?_
    simp only [push_cast, simprocAttr]
    refine Thn_n ?_
    refine hK _ _ ?_
    clear hK K
    refine AW.ret ?_
    refine hQ _ _ _ ?_
    first | refine RetP.drop0 (Or.inr rfl) ?_ ?_ hwf | refine RetP.drop (Or.inr rfl) ?_ ?_ hwf
    · simp only [resA, resOne, resTv, AV.tv, push_cast, simprocAttr, toneI, hp]
    · rfl
theorem shade_c (a : Int) (m : AMem) : Ctr Tryd.prog 39 [.one (.int .i64 a)] m (.one (.int .u8 (shadeI a))) m := by
  refine Ctr.enter Tryd.func39 rfl (by decide) (rs := [.tmp 2]) (nt := 9) rfl rfl fun hwf Q hQ => ?_
  have hu := unit_b a
  have w0 : IntKind.i64.wrap (unitI a) = unitI a := wi (by omega)
  have w1 : IntKind.i64.wrap (255 * unitI a) = 255 * unitI a := wi (by omega)
  have w2 : IntKind.i64.wrap (255 * unitI a + 32768) = 255 * unitI a + 32768 := wi (by omega)
  have w3 : (255 * unitI a + 32768).tdiv 65536 = (255 * unitI a + 32768) / 65536 := Int.tdiv_eq_ediv_of_nonneg (by omega)
  have w4 : IntKind.i64.wrap ((255 * unitI a + 32768) / 65536) = (255 * unitI a + 32768) / 65536 := wi (by omega)
  
  refine AW.seq_k fun K hK => ?_
  refine AW.region (by decide) ?_
  simp only [push_cast, simprocAttr, w0, w1, w2, w3, w4, pow16, shr16]
  refine Thn_n ?_
  refine hK _ _ ?_
  clear hK K
  refine AW.seq_k fun K hK => ?_
  refine AW.region (by decide) ?_
  simp only [push_cast, simprocAttr, w0, w1, w2, w3, w4, pow16, shr16]
  refine CThen.by (unit_c _ _) ?_
  simp only [push_cast, simprocAttr, w0, w1, w2, w3, w4, pow16, shr16]
  refine Thn_n ?_
  refine hK _ _ ?_
  clear hK K
  refine AW.ret ?_
  refine hQ _ _ _ ?_
  first | refine RetP.drop0 (Or.inr rfl) ?_ ?_ hwf | refine RetP.drop (Or.inr rfl) ?_ ?_ hwf
  · simp only [resA, resOne, resTv, AV.tv, push_cast, simprocAttr, w0, w1, w2, w3, w4, pow16, shr16, shadeI]
  · rfl
theorem rshade_c (a : Int) (m : AMem) : Ctr Tryd.prog 46 [.one (.int .i64 a)] m (.one (.int .u8 (shadeI a))) m := by
  refine Ctr.enter Tryd.func46 rfl (by decide) (rs := [.tmp 2]) (nt := 9) rfl rfl fun hwf Q hQ => ?_
  have hu := unit_b a
  have w0 : IntKind.i64.wrap (unitI a) = unitI a := wi (by omega)
  have w1 : IntKind.i64.wrap (255 * unitI a) = 255 * unitI a := wi (by omega)
  have w2 : IntKind.i64.wrap (255 * unitI a + 32768) = 255 * unitI a + 32768 := wi (by omega)
  have w3 : (255 * unitI a + 32768).tdiv 65536 = (255 * unitI a + 32768) / 65536 := Int.tdiv_eq_ediv_of_nonneg (by omega)
  have w4 : IntKind.i64.wrap ((255 * unitI a + 32768) / 65536) = (255 * unitI a + 32768) / 65536 := wi (by omega)
  
  refine AW.seq_k fun K hK => ?_
  refine AW.region (by decide) ?_
  simp only [push_cast, simprocAttr, w0, w1, w2, w3, w4, pow16, shr16]
  refine Thn_n ?_
  refine hK _ _ ?_
  clear hK K
  refine AW.seq_k fun K hK => ?_
  refine AW.region (by decide) ?_
  simp only [push_cast, simprocAttr, w0, w1, w2, w3, w4, pow16, shr16]
  refine CThen.by (runit_c _ _) ?_
  simp only [push_cast, simprocAttr, w0, w1, w2, w3, w4, pow16, shr16]
  refine Thn_n ?_
  refine hK _ _ ?_
  clear hK K
  refine AW.ret ?_
  refine hQ _ _ _ ?_
  first | refine RetP.drop0 (Or.inr rfl) ?_ ?_ hwf | refine RetP.drop (Or.inr rfl) ?_ ?_ hwf
  · simp only [resA, resOne, resTv, AV.tv, push_cast, simprocAttr, w0, w1, w2, w3, w4, pow16, shr16, shadeI]
  · rfl
theorem each_c (f : Int → Int → Int) (g : Nat) (a b c x y z : Int) (m : AMem) (hf : ∀ p q m, Ctr Tryd.prog g [.one (.int .i64 p), .one (.int .i64 q)] m (.one (.int .i64 (f p q))) m) : Ctr Tryd.prog 52 [.agg [.int .i64 a, .int .i64 b, .int .i64 c], .agg [.int .i64 x, .int .i64 y, .int .i64 z], .one (.fn g [])] m (.agg [.int .i64 (f a x), .int .i64 (f b y), .int .i64 (f c z)]) m := by
  refine Ctr.enter Tryd.func52 rfl (by decide) (rs := [.cell 6 79]) (nt := 26) rfl rfl fun hwf Q hQ => ?_
  refine AW.seq_k fun K hK => ?_
  refine AW.region (by decide) ?_
  simp only [push_cast, simprocAttr, capsAV]
  refine Thn_n ?_
  refine hK _ _ ?_
  clear hK K
  refine AW.seq_k fun K hK => ?_
  refine AW.draw [.val, .val, .rd 0, .val, .rd 0, .ext, .val, .val, .rd 0, .val, .rd 0, .ext, .val, .val, .rd 0, .val, .rd 0, .ext, .val, .wr] fol (by decide) (by kernel_rfl) ?_
  iterate 3
    simp only [push_cast, simprocAttr, capsAV]
    refine DCall.by0 (hf _ _ _) ?_
  simp only [push_cast, simprocAttr, capsAV]
  refine Thn_n ?_
  refine hK _ _ ?_
  clear hK K
  refine AW.ret ?_
  refine hQ _ _ _ ?_
  first | refine RetP.drop0 (Or.inr rfl) ?_ ?_ hwf | refine RetP.drop (Or.inr rfl) ?_ ?_ hwf
  · simp only [resA, resOne, resTv, AV.tv, push_cast, simprocAttr, capsAV]
  · rfl
theorem max1_c (a b : Int) (m : AMem) : Ctr Tryd.prog 53 [.one (.int .i64 a), .one (.int .i64 b)] m (.one (.int .i64 (Eng.maxI a b))) m := by
  refine Ctr.enter Tryd.func53 rfl (by decide) (rs := [.tmp 4]) (nt := 8) rfl rfl fun hwf Q hQ => ?_
  iterate 2
    refine AW.seq_k fun K hK => ?_
    refine AW.region (by decide) ?_
    simp only [push_cast, simprocAttr]
    refine Thn_n ?_
    refine hK _ _ ?_
    clear hK K
  refine AW.ret ?_
  refine hQ _ _ _ ?_
  first | refine RetP.drop0 (Or.inr rfl) ?_ ?_ hwf | refine RetP.drop (Or.inr rfl) ?_ ?_ hwf
  · simp only [resA, resOne, resTv, AV.tv, push_cast, simprocAttr]
  · rfl
theorem bright_c (a b c : Int) (m : AMem) : Ctr Tryd.prog 33 [.agg [.int .i64 a, .int .i64 b, .int .i64 c]] m (.agg [.int .i64 (posI a), .int .i64 (posI b), .int .i64 (posI c)]) m := by
  refine Ctr.enter Tryd.func33 rfl (by decide) (rs := [.cell 2 79]) (nt := 6) rfl rfl fun hwf Q hQ => ?_
  refine AW.seq_k fun K hK => ?_
  refine AW.region (by decide) ?_
  simp only [push_cast, simprocAttr, pos_max2]
  refine Thn_n ?_
  refine hK _ _ ?_
  clear hK K
  refine AW.seq_k fun K hK => ?_
  refine AW.region (by decide) ?_
  simp only [push_cast, simprocAttr, pos_max2]
  refine CThen.by (each_c Eng.maxI 53 a b c 0 0 0 _ max1_c) ?_
  simp only [push_cast, simprocAttr, pos_max2]
  refine Thn_n ?_
  refine hK _ _ ?_
  clear hK K
  refine AW.ret ?_
  refine hQ _ _ _ ?_
  first | refine RetP.drop0 (Or.inr rfl) ?_ ?_ hwf | refine RetP.drop (Or.inr rfl) ?_ ?_ hwf
  · simp only [resA, resOne, resTv, AV.tv, push_cast, simprocAttr, pos_max2]
  · rfl
theorem show_c (a b c : Int) (m : AMem) : Ctr Tryd.prog 32 [.agg [.int .i64 a, .int .i64 b, .int .i64 c]] m (.agg [.int .u8 (shadeI (toneI a)), .int .u8 (shadeI (toneI b)), .int .u8 (shadeI (toneI c))]) m := by
  refine Ctr.enter Tryd.func32 rfl (by decide) (rs := [.cell 2 69]) (nt := 16) rfl rfl fun hwf Q hQ => ?_
  refine AW.seq_k fun K hK => ?_
  refine AW.region (by decide) ?_
  simp only [push_cast, simprocAttr]
  refine Thn_n ?_
  refine hK _ _ ?_
  clear hK K
  refine AW.seq_k fun K hK => ?_
  refine AW.draw [.val, .rd 0, .ext, .ext, .val, .rd 0, .ext, .ext, .val, .rd 0, .ext, .ext, .val, .wr] fol (by decide) (by kernel_rfl) ?_
  iterate 3
    simp only [push_cast, simprocAttr]
    refine DCall.by0 (tone_c _ _) ?_
    simp only [push_cast, simprocAttr]
    refine DCall.by0 (shade_c _ _) ?_
  simp only [push_cast, simprocAttr]
  refine Thn_n ?_
  refine hK _ _ ?_
  clear hK K
  refine AW.ret ?_
  refine hQ _ _ _ ?_
  first | refine RetP.drop0 (Or.inr rfl) ?_ ?_ hwf | refine RetP.drop (Or.inr rfl) ?_ ?_ hwf
  · simp only [resA, resOne, resTv, AV.tv, push_cast, simprocAttr]
  · rfl
theorem rshow_c (a b c : Int) (m : AMem) : Ctr Tryd.prog 40 [.agg [.int .i64 a, .int .i64 b, .int .i64 c]] m (.agg [.int .u8 (shadeI (toneI a)), .int .u8 (shadeI (toneI b)), .int .u8 (shadeI (toneI c))]) m := by
  refine Ctr.enter Tryd.func40 rfl (by decide) (rs := [.cell 2 69]) (nt := 17) rfl rfl fun hwf Q hQ => ?_
  iterate 2
    refine AW.seq_k fun K hK => ?_
    refine AW.region (by decide) ?_
    simp only [push_cast, simprocAttr]
    refine Thn_n ?_
    refine hK _ _ ?_
    clear hK K
  refine AW.seq_k fun K hK => ?_
  refine AW.seq_k fun K hK => ?_
  refine AW.region (by decide) ?_
  simp only [push_cast, simprocAttr]
  refine Thn_n ?_
  refine hK _ _ ?_
  clear hK K
  refine AW.block ?_
  refine AW.rounds 4 ?_
  iterate 3
    refine ARounds.succ fun K hK => ?_
    refine AW.seq_k fun K hK => ?_
    refine AW.seq_k fun K hK => ?_
    refine AW.region (by decide) ?_
    simp only [push_cast, simprocAttr]
    refine Thn_n ?_
    refine hK _ _ ?_
    clear hK K
    refine AW.cond_t rfl ?_
    refine AW.skip ?_
    refine Thn_n ?_
    refine hK _ _ ?_
    clear hK K
    refine AW.seq_k fun K hK => ?_
    refine AW.block ?_
    refine AW.region (by decide) ?_
    simp only [push_cast, simprocAttr]
    refine CThen.by (rtone_c _ _) ?_
    simp only [push_cast, simprocAttr]
    refine CThen.by (rshade_c _ _) ?_
    simp only [push_cast, simprocAttr]
    refine InB_n ?_
    refine Thn_n ?_
    refine hK _ _ ?_
    clear hK K
    refine AW.region (by decide) ?_
    simp only [push_cast, simprocAttr]
    refine Thn_n ?_
    refine hK _ _ ?_
    clear hK K
  refine ARounds.succ fun K hK => ?_
  refine AW.seq_k fun K hK => ?_
  refine AW.seq_k fun K hK => ?_
  refine AW.region (by decide) ?_
  simp only [push_cast, simprocAttr]
  refine Thn_n ?_
  refine hK _ _ ?_
  clear hK K
  refine AW.cond_f rfl ?_
  refine AW.exit ?_
  refine Thn_e ?_
  clear hK K
  refine Thn_e ?_
  clear hK K
  refine InB_here ?_
  refine Thn_n ?_
  refine hK _ _ ?_
  clear hK K
  refine AW.seq_k fun K hK => ?_
  refine AW.region (by decide) ?_
  simp only [push_cast, simprocAttr]
  refine Thn_n ?_
  refine hK _ _ ?_
  clear hK K
  refine AW.ret ?_
  refine hQ _ _ _ ?_
  first | refine RetP.drop0 (Or.inr rfl) ?_ ?_ hwf | refine RetP.drop (Or.inr rfl) ?_ ?_ hwf
  · simp only [resA, resOne, resTv, AV.tv, push_cast, simprocAttr]
  · rfl
theorem rbright_c (a b c : Int) (m : AMem) : Ctr Tryd.prog 41 [.agg [.int .i64 a, .int .i64 b, .int .i64 c]] m (.agg [.int .i64 (posI a), .int .i64 (posI b), .int .i64 (posI c)]) m := by
  refine Ctr.enter Tryd.func41 rfl (by decide) (rs := [.cell 2 77]) (nt := 15) rfl rfl fun hwf Q hQ => ?_
  refine AW.seq_k fun K hK => ?_
  refine AW.region (by decide) ?_
  simp only [push_cast, simprocAttr]
  refine Thn_n ?_
  refine hK _ _ ?_
  clear hK K
  refine AW.seq_k fun K hK => ?_
  refine AW.seq_k fun K hK => ?_
  refine AW.region (by decide) ?_
  simp only [push_cast, simprocAttr]
  refine Thn_n ?_
  refine hK _ _ ?_
  clear hK K
  refine AW.block ?_
  refine AW.rounds 4 ?_
  refine ARounds.succ fun K hK => ?_
  refine AW.seq_k fun K hK => ?_
  refine AW.seq_k fun K hK => ?_
  refine AW.region (by decide) ?_
  simp only [push_cast, simprocAttr]
  refine Thn_n ?_
  refine hK _ _ ?_
  clear hK K
  refine AW.cond_t rfl ?_
  refine AW.skip ?_
  refine Thn_n ?_
  refine hK _ _ ?_
  clear hK K
  refine AW.seq_k fun K hK => ?_
  refine AW.block ?_
  refine AW.seq_k fun K hK => ?_
  refine AW.region (by decide) ?_
  simp only [push_cast, simprocAttr]
  refine Thn_n ?_
  refine hK _ _ ?_
  clear hK K
  refine AW.condJ rfl [1, 2, 3] [] [(m.length, ⟨.fix, 77, 0, 0, [.int .i64 (posI a), .int .i64 b, .int .i64 c]⟩)] (fun h11 => ?_) (fun h11 => ?_) ?_
  · have hx : posI a = 0 := by unfold posI; rw [if_pos (of_decide_eq_true h11)]
    refine AW.region (by decide) ?_
    simp only [push_cast, simprocAttr]
    refine Thn_n ?_
    try simp only [keepL, setAll, push_cast, simprocAttr, hx]
    exact Weak.same (by simp only [Keeps, Tm.get_cons, Nat.reduceEqDiff, ↓reduceIte, if_true, if_false, ite_true, ite_false, true_and, and_true, and_self, reduceCtorEq, hx]) (by first | rfl | simp only [Keeps, Tm.get_cons, Nat.reduceEqDiff, ↓reduceIte, if_true, if_false, ite_true, ite_false, true_and, and_true, and_self, reduceCtorEq, hx])
  · have hx : posI a = a := by unfold posI; rw [if_neg (of_decide_eq_false h11)]
    refine AW.skip ?_
    refine Thn_n ?_
    try simp only [keepL, setAll, push_cast, simprocAttr, hx]
    exact Weak.same (by simp only [Keeps, Tm.get_cons, Nat.reduceEqDiff, ↓reduceIte, if_true, if_false, ite_true, ite_false, true_and, and_true, and_self, reduceCtorEq, hx]) (by first | rfl | simp only [Keeps, Tm.get_cons, Nat.reduceEqDiff, ↓reduceIte, if_true, if_false, ite_true, ite_false, true_and, and_true, and_self, reduceCtorEq, hx])
  try simp only [keepL, setAll, push_cast, simprocAttr]
  refine InB_n ?_
  refine Thn_n ?_
  refine hK _ _ ?_
  clear hK K
  refine AW.region (by decide) ?_
  simp only [push_cast, simprocAttr]
  refine Thn_n ?_
  refine hK _ _ ?_
  clear hK K
  refine ARounds.succ fun K hK => ?_
  refine AW.seq_k fun K hK => ?_
  refine AW.seq_k fun K hK => ?_
  refine AW.region (by decide) ?_
  simp only [push_cast, simprocAttr]
  refine Thn_n ?_
  refine hK _ _ ?_
  clear hK K
  refine AW.cond_t rfl ?_
  refine AW.skip ?_
  refine Thn_n ?_
  refine hK _ _ ?_
  clear hK K
  refine AW.seq_k fun K hK => ?_
  refine AW.block ?_
  refine AW.seq_k fun K hK => ?_
  refine AW.region (by decide) ?_
  simp only [push_cast, simprocAttr]
  refine Thn_n ?_
  refine hK _ _ ?_
  clear hK K
  refine AW.condJ rfl [1, 2, 3] [] [(m.length, ⟨.fix, 77, 0, 0, [.int .i64 (posI a), .int .i64 (posI b), .int .i64 c]⟩)] (fun h11 => ?_) (fun h11 => ?_) ?_
  · have hx : posI b = 0 := by unfold posI; rw [if_pos (of_decide_eq_true h11)]
    refine AW.region (by decide) ?_
    simp only [push_cast, simprocAttr]
    refine Thn_n ?_
    try simp only [keepL, setAll, push_cast, simprocAttr, hx]
    exact Weak.same (by simp only [Keeps, Tm.get_cons, Nat.reduceEqDiff, ↓reduceIte, if_true, if_false, ite_true, ite_false, true_and, and_true, and_self, reduceCtorEq, hx]) (by first | rfl | simp only [Keeps, Tm.get_cons, Nat.reduceEqDiff, ↓reduceIte, if_true, if_false, ite_true, ite_false, true_and, and_true, and_self, reduceCtorEq, hx])
  · have hx : posI b = b := by unfold posI; rw [if_neg (of_decide_eq_false h11)]
    refine AW.skip ?_
    refine Thn_n ?_
    try simp only [keepL, setAll, push_cast, simprocAttr, hx]
    exact Weak.same (by simp only [Keeps, Tm.get_cons, Nat.reduceEqDiff, ↓reduceIte, if_true, if_false, ite_true, ite_false, true_and, and_true, and_self, reduceCtorEq, hx]) (by first | rfl | simp only [Keeps, Tm.get_cons, Nat.reduceEqDiff, ↓reduceIte, if_true, if_false, ite_true, ite_false, true_and, and_true, and_self, reduceCtorEq, hx])
  try simp only [keepL, setAll, push_cast, simprocAttr]
  refine InB_n ?_
  refine Thn_n ?_
  refine hK _ _ ?_
  clear hK K
  refine AW.region (by decide) ?_
  simp only [push_cast, simprocAttr]
  refine Thn_n ?_
  refine hK _ _ ?_
  clear hK K
  refine ARounds.succ fun K hK => ?_
  refine AW.seq_k fun K hK => ?_
  refine AW.seq_k fun K hK => ?_
  refine AW.region (by decide) ?_
  simp only [push_cast, simprocAttr]
  refine Thn_n ?_
  refine hK _ _ ?_
  clear hK K
  refine AW.cond_t rfl ?_
  refine AW.skip ?_
  refine Thn_n ?_
  refine hK _ _ ?_
  clear hK K
  refine AW.seq_k fun K hK => ?_
  refine AW.block ?_
  refine AW.seq_k fun K hK => ?_
  refine AW.region (by decide) ?_
  simp only [push_cast, simprocAttr]
  refine Thn_n ?_
  refine hK _ _ ?_
  clear hK K
  refine AW.condJ rfl [1, 2, 3] [] [(m.length, ⟨.fix, 77, 0, 0, [.int .i64 (posI a), .int .i64 (posI b), .int .i64 (posI c)]⟩)] (fun h11 => ?_) (fun h11 => ?_) ?_
  · have hx : posI c = 0 := by unfold posI; rw [if_pos (of_decide_eq_true h11)]
    refine AW.region (by decide) ?_
    simp only [push_cast, simprocAttr]
    refine Thn_n ?_
    try simp only [keepL, setAll, push_cast, simprocAttr, hx]
    exact Weak.same (by simp only [Keeps, Tm.get_cons, Nat.reduceEqDiff, ↓reduceIte, if_true, if_false, ite_true, ite_false, true_and, and_true, and_self, reduceCtorEq, hx]) (by first | rfl | simp only [Keeps, Tm.get_cons, Nat.reduceEqDiff, ↓reduceIte, if_true, if_false, ite_true, ite_false, true_and, and_true, and_self, reduceCtorEq, hx])
  · have hx : posI c = c := by unfold posI; rw [if_neg (of_decide_eq_false h11)]
    refine AW.skip ?_
    refine Thn_n ?_
    try simp only [keepL, setAll, push_cast, simprocAttr, hx]
    exact Weak.same (by simp only [Keeps, Tm.get_cons, Nat.reduceEqDiff, ↓reduceIte, if_true, if_false, ite_true, ite_false, true_and, and_true, and_self, reduceCtorEq, hx]) (by first | rfl | simp only [Keeps, Tm.get_cons, Nat.reduceEqDiff, ↓reduceIte, if_true, if_false, ite_true, ite_false, true_and, and_true, and_self, reduceCtorEq, hx])
  try simp only [keepL, setAll, push_cast, simprocAttr]
  refine InB_n ?_
  refine Thn_n ?_
  refine hK _ _ ?_
  clear hK K
  refine AW.region (by decide) ?_
  simp only [push_cast, simprocAttr]
  refine Thn_n ?_
  refine hK _ _ ?_
  clear hK K
  refine ARounds.succ fun K hK => ?_
  refine AW.seq_k fun K hK => ?_
  refine AW.seq_k fun K hK => ?_
  refine AW.region (by decide) ?_
  simp only [push_cast, simprocAttr]
  refine Thn_n ?_
  refine hK _ _ ?_
  clear hK K
  refine AW.cond_f rfl ?_
  refine AW.exit ?_
  refine Thn_e ?_
  clear hK K
  refine Thn_e ?_
  clear hK K
  refine InB_here ?_
  refine Thn_n ?_
  refine hK _ _ ?_
  clear hK K
  refine AW.seq_k fun K hK => ?_
  refine AW.region (by decide) ?_
  simp only [push_cast, simprocAttr]
  refine Thn_n ?_
  refine hK _ _ ?_
  clear hK K
  refine AW.ret ?_
  refine hQ _ _ _ ?_
  first | refine RetP.drop0 (Or.inr rfl) ?_ ?_ hwf | refine RetP.drop (Or.inr rfl) ?_ ?_ hwf
  · simp only [resA, resOne, resTv, AV.tv, push_cast, simprocAttr, posI]
  · rfl
end Go.Proofs.YtbigijnadkeecaaDoor

set_option linter.unusedSimpArgs false
set_option linter.unusedVariables false
set_option maxRecDepth 100000
set_option maxHeartbeats 4000000
namespace Go.Proofs.YtbigijnadkeecaaDoor
open Go Go.Eng

noncomputable def shG (G : Nat → Nat → Int) : Nat → Nat → Int := fun i k => shadeI (toneI (posI (G i k)))
def grI (d s : Int) : Int := if s < 0 then 0 else divI 65536 (addI 65536 (posI d))
def depI (d s : Int) : Int := shadeI (grI d s)
def depG (f g : Nat → Int) : Nat → Nat → Int := fun i _ => depI (f i) (g i)
def norI (x : Int) : Int := shadeI (divI (addI x 65536) 131072)
def norG (G : Nat → Nat → Int) : Nat → Nat → Int := fun i k => norI (G i k)
theorem show_no (W H : Int) (r n : Nat) (m : AMem) (hs : shR W H n = false) : Ctr Tryd.prog 9 [.agg [.int .i64 W, .int .i64 H, .sl r 0 0 n]] m (.tup [(true, [.int .i64 0, .int .i64 0, .nils]), (false, [.int .i64 1])]) m := by
  refine Ctr.enter Tryd.func9 rfl (by decide) (rs := [.cell 2 44, .tmp 3]) (nt := 31) rfl rfl fun hwf Q hQ => ?_
  refine AW.seq_k fun K hK => ?_
  refine AW.region (by decide) ?_
  simp only [push_cast, simprocAttr, hs]
  refine Thn_n ?_
  refine hK _ _ ?_
  clear hK K
  refine AW.seq_k fun K hK => ?_
  refine AW.seq_k fun K hK => ?_
  refine AW.region (by decide) ?_
  simp only [push_cast, simprocAttr, hs]
  refine CThen.by (sheetRight_c _ _ _ _ _ _) ?_
  simp only [push_cast, simprocAttr, hs]
  refine Thn_n ?_
  refine hK _ _ ?_
  clear hK K
  refine AW.cond_t rfl ?_
  refine AW.seq_k fun K hK => ?_
  refine AW.region (by decide) ?_
  simp only [push_cast, simprocAttr, hs]
  refine Thn_n ?_
  refine hK _ _ ?_
  clear hK K
  refine AW.ret ?_
  refine Thn_r ?_
  refine hQ _ _ _ ?_
  first | refine RetP.drop0 (Or.inr rfl) ?_ ?_ hwf | refine RetP.drop (Or.inr rfl) ?_ ?_ hwf
  · simp only [resA, resOne, resTv, AV.tv, push_cast, simprocAttr, hs]
  · rfl
theorem show_ok (W H : Int) (r n : Nat) (G : Nat → Nat → Int) (m : AMem) (hs : shR W H n = true) (hp : HRow m 79 r n G) (hn : n ≤ 1048576) : Ctr Tryd.prog 9 [.agg [.int .i64 W, .int .i64 H, .sl r 0 0 n]] m (.tup [(true, [.int .i64 W, .int .i64 H, .sl m.length 0 0 n]), (false, [.int .i64 0])]) (m ++ [⟨.grow, 69, 0, 3, d8 n (shG G)⟩]) := by
  refine Ctr.enter Tryd.func9 rfl (by decide) (rs := [.cell 2 44, .tmp 3]) (nt := 31) rfl rfl fun hwf Q hQ => ?_
  obtain ⟨k0, ez, hb⟩ := hp.hb
  have hr := get_lt hb
  have hlt0 : ∀ k, ¬ m.length + k < m.length := fun k => by omega
  
  refine AW.seq_k fun K hK => ?_
  refine AW.region (by decide) ?_
  simp only [push_cast, simprocAttr, hs, hb, lk_old hb, dl_len]
  refine Thn_n ?_
  refine hK _ _ ?_
  clear hK K
  refine AW.seq_k fun K hK => ?_
  refine AW.seq_k fun K hK => ?_
  refine AW.region (by decide) ?_
  simp only [push_cast, simprocAttr, hs, hb, lk_old hb, dl_len]
  refine CThen.by (sheetRight_c _ _ _ _ _ _) ?_
  simp only [push_cast, simprocAttr, hs, hb, lk_old hb, dl_len]
  refine Thn_n ?_
  refine hK _ _ ?_
  clear hK K
  refine AW.cond_f rfl ?_
  refine AW.skip ?_
  refine Thn_n ?_
  refine hK _ _ ?_
  clear hK K
  refine AW.seq_k fun K hK => ?_
  refine AW.region (by decide) ?_
  simp only [push_cast, simprocAttr, hs, hb, lk_old hb, dl_len]
  refine Thn_n ?_
  refine hK _ _ ?_
  clear hK K
  refine AW.seq_k fun K hK => ?_
  refine AW.seq_k fun K hK => ?_
  refine AW.region (by decide) ?_
  simp only [push_cast, simprocAttr, hs, hb, lk_old hb, dl_len]
  refine Thn_n ?_
  refine hK _ _ ?_
  clear hK K
  refine AW.block ?_
  refine AW.nilCell 69 3 (m.length + 2) 2 (by simp only [push_cast, simprocAttr, hs, hb, lk_old hb, dl_len]; first | done | rfl) (by intro e; cases e) rfl ?_
  try simp only [push_cast, simprocAttr, hs, hb, lk_old hb, dl_len]
  refine AW.loopK [2, 4, 15, 16] (fun i => i ≤ n) (fun i => [(17, .one (.int .i64 (i : Int)))]) (fun i => [(m.length + 2, ⟨.fix, 44, 0, 0, [.int .i64 W, .int .i64 H, .sl (m.length + 3) i 0 i]⟩), (m.length + 3, ⟨.grow, 69, i, 3, d8 i (shG G)⟩)]) (fun i => n - i) 0 (by omega) ?_ ?_ fun i hi7 => ?_
  · first | rfl | (simp only [Keeps, Tm.get_cons, Nat.reduceEqDiff, ↓reduceIte, if_true, if_false, ite_true, ite_false, true_and, and_true, and_self, reduceCtorEq, d8, Int.natCast_zero] <;> rfl)
  · first | rfl | (simp only [setAll, push_cast, simprocAttr, hs, hb, lk_old hb, dl_len, d8, Int.natCast_zero] <;> rfl)
  try simp only [keepL, setAll, push_cast, simprocAttr, hs, hb, lk_old hb, dl_len]
  refine AW.seq_k fun K hK => ?_
  refine AW.region (by decide) ?_
  simp only [push_cast, simprocAttr, hs, hb, lk_old hb, dl_len]
  refine Thn_n ?_
  refine hK _ _ ?_
  clear hK K
  refine AW.seq_k fun K hK => ?_
  refine AW.cond rfl (fun h18 => ?_) (fun h18 => ?_)
  · have hlt : i < n := by have := of_decide_eq_true h18; omega
    have c1 : (0 : Int) ≤ (i : Int) := by omega
    have c2 : (i : Int) < (n : Int) := by omega
    have c3 : i * 3 + 3 ≤ n * 3 := by omega
    have g0 := dl_get0 (G := G) hlt
    have g1 := dl_get1 (G := G) hlt
    have g2 := dl_get2 (G := G) hlt
    have g3 := dl_at (G := G) hlt
    have gi := d8_len i (shG G)
    have q1 : i + 1 ≤ 140737488355328 := by omega
    have q2 : (i + 1) * 3 ≤ 140737488355328 := by omega
    have q3 : (i + 1) * 8 ≤ 140737488355328 := by omega
    refine AW.skip ?_
    refine Thn_n ?_
    refine hK _ _ ?_
    clear hK K
    refine AW.seq_k fun K hK => ?_
    refine AW.block ?_
    refine AW.seq_k fun K hK => ?_
    refine AW.region (by decide) ?_
    simp only [push_cast, simprocAttr, hs, hb, lk_old hb, dl_len, c1, c2, c3, g0, g1, g2, g3, gi, q1, q2, q3]
    refine Thn_n ?_
    refine hK _ _ ?_
    clear hK K
    refine AW.draw [.val, .rd 0, .rd 0, .ext, .ext, .ext, .wr, .val, .wr] fol (by decide) (by kernel_rfl) ?_
    simp only [push_cast, simprocAttr, hs, hb, lk_old hb, dl_len, c1, c2, c3, g0, g1, g2, g3, gi, q1, q2, q3]
    refine DCall.by0 (bright_c _ _ _ _) ?_
    simp only [push_cast, simprocAttr, hs, hb, lk_old hb, dl_len, c1, c2, c3, g0, g1, g2, g3, gi, q1, q2, q3]
    refine DCall.by0 (show_c _ _ _ _) ?_
    simp only [push_cast, simprocAttr, hs, hb, lk_old hb, dl_len, c1, c2, c3, g0, g1, g2, g3, gi, q1, q2, q3]
    refine DExt.by (by first | rfl | exact (List.append_nil _).symm | (simp only [List.append_assoc, List.cons_append, List.nil_append]; rfl)) ?_
    simp only [push_cast, simprocAttr, hs, hb, lk_old hb, dl_len, c1, c2, c3, g0, g1, g2, g3, gi, q1, q2, q3]
    refine InB_n ?_
    refine Thn_n ?_
    refine hK _ _ ?_
    clear hK K
    refine AW.region (by decide) ?_
    simp only [push_cast, simprocAttr, hs, hb, lk_old hb, dl_len, c1, c2, c3, g0, g1, g2, g3, gi, q1, q2, q3]
    refine Thn_n ?_
    have hwi : IntKind.i64.wrap ((i:Int)+1) = (i:Int)+1 := wi (by omega)
    have hsn : d8 i (shG G) ++ [.int .u8 (shadeI (toneI (posI (G i 0)))), .int .u8 (shadeI (toneI (posI (G i 1)))), .int .u8 (shadeI (toneI (posI (G i 2))))] = d8 (i + 1) (shG G) := rfl
    refine ⟨i + 1, by omega, by omega, ?_⟩
    try simp only [keepL, setAll, push_cast, simprocAttr, hs, hb, lk_old hb, dl_len, c1, c2, c3, g0, g1, g2, g3, gi, q1, q2, q3, hwi, hsn]
    exact Weak.to (extra := [_, _]) (by simp only [Keeps, Tm.get_cons, Nat.reduceEqDiff, ↓reduceIte, if_true, if_false, ite_true, ite_false, true_and, and_true, and_self, reduceCtorEq, hwi, hsn]) (by first | rfl | (simp only [List.append_assoc, List.cons_append, List.nil_append]; rfl)) (by first | rfl | (simp [AV.below, CV.below, d8_below]; done) | (simp [AV.below, CV.below, d8_below]; omega)) (by
      first | exact hwf | refine MWf.app (hwf.grow (by simp)) ?_
      repeat (first | exact MWf_nil | (refine MWf_cons ?_ ?_; · first | rfl | (simp [CV.below, d8_below]; done) | (simp [CV.below, d8_below]; omega))))
  · have hin : n = i := by have := of_decide_eq_false h18; omega
    subst hin
    refine AW.exit ?_
    refine Thn_e ?_
    clear hK K
    refine Thn_e ?_
    refine InB_here ?_
    refine Thn_n ?_
    refine hK _ _ ?_
    clear hK K
    refine AW.seq_k fun K hK => ?_
    refine AW.region (by decide) ?_
    simp only [push_cast, simprocAttr, hs, hb, lk_old hb, dl_len]
    refine Thn_n ?_
    refine hK _ _ ?_
    clear hK K
    refine AW.ret ?_
    refine hQ _ _ _ ?_
    refine RetP.pick [(m.length + 3, n)] (Or.inr rfl) ?_ ?_ ?_ hwf ?_
    · simp only [resA, resOne, resTv, AV.tv, push_cast, simprocAttr]
      simp [renV, renT, renL, renC, renIdx, hlt0]
    · simp only [picks, push_cast, simprocAttr]
    · simp [distinctFrom]
    · exact MWf_one (d8_below _ _ _)
    
theorem rshow_pic (W H : Int) (r n : Nat) (G : Nat → Nat → Int) (m : AMem) (hp : HRow m 77 r n G) (hn : n ≤ 1048576) : Ctr Tryd.prog 16 [.agg [.int .i64 W, .int .i64 H, .sl r 0 0 n]] m (.agg [.int .i64 W, .int .i64 H, .sl m.length 0 0 n]) (m ++ [⟨.grow, 69, 0, 3, d8 n (shG G)⟩]) := by
  refine Ctr.enter Tryd.func16 rfl (by decide) (rs := [.cell 2 52]) (nt := 30) rfl rfl fun hwf Q hQ => ?_
  obtain ⟨k0, ez, hb⟩ := hp.hb
  have hr := get_lt hb
  have hlt0 : ∀ k, ¬ m.length + k < m.length := fun k => by omega
  
  iterate 2
    refine AW.seq_k fun K hK => ?_
    refine AW.region (by decide) ?_
    simp only [push_cast, simprocAttr, hb, lk_old hb, dl_len]
    refine Thn_n ?_
    refine hK _ _ ?_
    clear hK K
  refine AW.seq_k fun K hK => ?_
  refine AW.seq_k fun K hK => ?_
  refine AW.region (by decide) ?_
  simp only [push_cast, simprocAttr, hb, lk_old hb, dl_len]
  refine Thn_n ?_
  refine hK _ _ ?_
  clear hK K
  refine AW.block ?_
  refine AW.nilCell 69 3 (m.length + 2) 2 (by simp only [push_cast, simprocAttr, hb, lk_old hb, dl_len]; first | done | rfl) (by intro e; cases e) rfl ?_
  try simp only [push_cast, simprocAttr, hb, lk_old hb, dl_len]
  refine AW.loopK [1, 2, 3] (fun i => i ≤ n) (fun i => [(4, .one (.int .i64 (i : Int)))]) (fun i => [(m.length + 2, ⟨.fix, 52, 0, 0, [.int .i64 W, .int .i64 H, .sl (m.length + 3) i 0 i]⟩), (m.length + 3, ⟨.grow, 69, i, 3, d8 i (shG G)⟩)]) (fun i => n - i) 0 (by omega) ?_ ?_ fun i hi5 => ?_
  · first | rfl | (simp only [Keeps, Tm.get_cons, Nat.reduceEqDiff, ↓reduceIte, if_true, if_false, ite_true, ite_false, true_and, and_true, and_self, reduceCtorEq, d8, Int.natCast_zero] <;> rfl)
  · first | rfl | (simp only [setAll, push_cast, simprocAttr, hb, lk_old hb, dl_len, d8, Int.natCast_zero] <;> rfl)
  try simp only [keepL, setAll, push_cast, simprocAttr, hb, lk_old hb, dl_len]
  refine AW.seq_k fun K hK => ?_
  refine AW.seq_k fun K hK => ?_
  refine AW.region (by decide) ?_
  simp only [push_cast, simprocAttr, hb, lk_old hb, dl_len]
  refine Thn_n ?_
  refine hK _ _ ?_
  clear hK K
  refine AW.cond rfl (fun h14 => ?_) (fun h14 => ?_)
  · have hlt : i < n := by have := of_decide_eq_true h14; omega
    have c1 : (0 : Int) ≤ (i : Int) := by omega
    have c2 : (i : Int) < (n : Int) := by omega
    have c3 : i * 3 + 3 ≤ n * 3 := by omega
    have g0 := dl_get0 (G := G) hlt
    have g1 := dl_get1 (G := G) hlt
    have g2 := dl_get2 (G := G) hlt
    have g3 := dl_at (G := G) hlt
    have gi := d8_len i (shG G)
    have q1 : i + 1 ≤ 140737488355328 := by omega
    have q2 : (i + 1) * 3 ≤ 140737488355328 := by omega
    have q3 : (i + 1) * 8 ≤ 140737488355328 := by omega
    refine AW.skip ?_
    refine Thn_n ?_
    refine hK _ _ ?_
    clear hK K
    refine AW.seq_k fun K hK => ?_
    refine AW.block ?_
    refine AW.draw [.val, .rd 0, .val, .rd 0, .val, .val, .rd 0, .ext, .ext, .ext, .wr, .val, .wr] fol (by decide) (by kernel_rfl) ?_
    simp only [push_cast, simprocAttr, hb, lk_old hb, dl_len, c1, c2, c3, g0, g1, g2, g3, gi, q1, q2, q3]
    refine DCall.by0 (rbright_c _ _ _ _) ?_
    simp only [push_cast, simprocAttr, hb, lk_old hb, dl_len, c1, c2, c3, g0, g1, g2, g3, gi, q1, q2, q3]
    refine DCall.by0 (rshow_c _ _ _ _) ?_
    simp only [push_cast, simprocAttr, hb, lk_old hb, dl_len, c1, c2, c3, g0, g1, g2, g3, gi, q1, q2, q3]
    refine DExt.by (by first | rfl | exact (List.append_nil _).symm | (simp only [List.append_assoc, List.cons_append, List.nil_append]; rfl)) ?_
    simp only [push_cast, simprocAttr, hb, lk_old hb, dl_len, c1, c2, c3, g0, g1, g2, g3, gi, q1, q2, q3]
    refine InB_n ?_
    refine Thn_n ?_
    refine hK _ _ ?_
    clear hK K
    refine AW.region (by decide) ?_
    simp only [push_cast, simprocAttr, hb, lk_old hb, dl_len, c1, c2, c3, g0, g1, g2, g3, gi, q1, q2, q3]
    refine Thn_n ?_
    have hwi : IntKind.i64.wrap ((i:Int)+1) = (i:Int)+1 := wi (by omega)
    have hsn : d8 i (shG G) ++ [.int .u8 (shadeI (toneI (posI (G i 0)))), .int .u8 (shadeI (toneI (posI (G i 1)))), .int .u8 (shadeI (toneI (posI (G i 2))))] = d8 (i + 1) (shG G) := rfl
    refine ⟨i + 1, by omega, by omega, ?_⟩
    try simp only [keepL, setAll, push_cast, simprocAttr, hb, lk_old hb, dl_len, c1, c2, c3, g0, g1, g2, g3, gi, q1, q2, q3, hwi, hsn]
    exact Weak.to (extra := [_]) (by simp only [Keeps, Tm.get_cons, Nat.reduceEqDiff, ↓reduceIte, if_true, if_false, ite_true, ite_false, true_and, and_true, and_self, reduceCtorEq, hwi, hsn]) (by first | rfl | (simp only [List.append_assoc, List.cons_append, List.nil_append]; rfl)) (by first | rfl | (simp [AV.below, CV.below, d8_below]; done) | (simp [AV.below, CV.below, d8_below]; omega)) (by
      first | exact hwf | refine MWf.app (hwf.grow (by simp)) ?_
      repeat (first | exact MWf_nil | (refine MWf_cons ?_ ?_; · first | rfl | (simp [CV.below, d8_below]; done) | (simp [CV.below, d8_below]; omega))))
  · have hin : n = i := by have := of_decide_eq_false h14; omega
    subst hin
    refine AW.exit ?_
    refine Thn_e ?_
    clear hK K
    refine Thn_e ?_
    refine InB_here ?_
    refine Thn_n ?_
    refine hK _ _ ?_
    clear hK K
    refine AW.seq_k fun K hK => ?_
    refine AW.region (by decide) ?_
    simp only [push_cast, simprocAttr, hb, lk_old hb, dl_len]
    refine Thn_n ?_
    refine hK _ _ ?_
    clear hK K
    refine AW.ret ?_
    refine hQ _ _ _ ?_
    refine RetP.pick [(m.length + 3, n)] (Or.inr rfl) ?_ ?_ ?_ hwf ?_
    · simp only [resA, resOne, resTv, AV.tv, push_cast, simprocAttr]
      simp [renV, renT, renL, renC, renIdx, hlt0]
    · simp only [picks, push_cast, simprocAttr]
    · simp [distinctFrom]
    · exact MWf_one (d8_below _ _ _)
    
end Go.Proofs.YtbigijnadkeecaaDoor

set_option linter.unusedSimpArgs false
set_option linter.unusedVariables false
set_option maxRecDepth 100000
set_option maxHeartbeats 4000000
namespace Go.Proofs.YtbigijnadkeecaaDoor
open Go Go.Eng

theorem filmR_len {W H : Int} {nL nD nN nB nS nF : Nat} {fS fF : Nat → Int} (h : filmR W H nL nD nN nB nS nF fS fF = true) : nD = nL ∧ nN = nL ∧ nS = nL := by
  simp only [filmR, Bool.and_eq_true, decide_eq_true_eq] at h
  exact ⟨h.2.1.1, h.2.1.2.1, h.2.1.2.2.2.1⟩
theorem depths_no (W H : Int) (rL nL rD nD rN nN rB nB rS nS rF nF : Nat) (GL GN GB : Nat → Nat → Int) (fD fS fF : Nat → Int) (m : AMem) (hs : filmR W H nL nD nN nB nS nF fS fF = false) (pL : HRow m 79 rL nL GL) (pB : HRow m 79 rB nB GB) (pD : IRow m 71 rD nD fD) (pN : HRow m 75 rN nN GN) (pS : IRow m 3 rS nS fS) (pF : IRow m 3 rF nF fF) (bD : nD ≤ 1048576) (bL : nL ≤ 1048576) : Ctr Tryd.prog 10 [.agg [.int .i64 W, .int .i64 H, .sl rL 0 0 nL, .sl rD 0 0 nD, .sl rN 0 0 nN, .sl rB 0 0 nB, .sl rS 0 0 nS, .sl rF 0 0 nF]] m (.tup [(true, [.int .i64 0, .int .i64 0, .nils]), (false, [.int .i64 1])]) m := by
  refine Ctr.enter Tryd.func10 rfl (by decide) (rs := [.cell 2 44, .tmp 3]) (nt := 43) rfl rfl fun hwf Q hQ => ?_
  refine AW.seq_k fun K hK => ?_
  refine AW.region (by decide) ?_
  simp only [push_cast, simprocAttr, hs]
  refine Thn_n ?_
  refine hK _ _ ?_
  clear hK K
  refine AW.seq_k fun K hK => ?_
  refine AW.seq_k fun K hK => ?_
  refine AW.region (by decide) ?_
  simp only [push_cast, simprocAttr, hs]
  refine CThen.by (filmRight_all W H rL nL rD nD rN nN rB nB rS nS rF nF fS fF _ (pS.mono _) (pF.mono _) bL) ?_
  simp only [push_cast, simprocAttr, hs]
  refine Thn_n ?_
  refine hK _ _ ?_
  clear hK K
  refine AW.cond_t rfl ?_
  refine AW.seq_k fun K hK => ?_
  refine AW.region (by decide) ?_
  simp only [push_cast, simprocAttr, hs]
  refine Thn_n ?_
  refine hK _ _ ?_
  clear hK K
  refine AW.ret ?_
  refine Thn_r ?_
  refine hQ _ _ _ ?_
  first | refine RetP.drop0 (Or.inr rfl) ?_ ?_ hwf | refine RetP.drop (Or.inr rfl) ?_ ?_ hwf
  · simp only [resA, resOne, resTv, AV.tv, push_cast, simprocAttr, hs]
  · rfl
theorem normals_no (W H : Int) (rL nL rD nD rN nN rB nB rS nS rF nF : Nat) (GL GN GB : Nat → Nat → Int) (fD fS fF : Nat → Int) (m : AMem) (hs : filmR W H nL nD nN nB nS nF fS fF = false) (pL : HRow m 79 rL nL GL) (pB : HRow m 79 rB nB GB) (pD : IRow m 71 rD nD fD) (pN : HRow m 75 rN nN GN) (pS : IRow m 3 rS nS fS) (pF : IRow m 3 rF nF fF) (bD : nD ≤ 1048576) (bL : nL ≤ 1048576) : Ctr Tryd.prog 11 [.agg [.int .i64 W, .int .i64 H, .sl rL 0 0 nL, .sl rD 0 0 nD, .sl rN 0 0 nN, .sl rB 0 0 nB, .sl rS 0 0 nS, .sl rF 0 0 nF]] m (.tup [(true, [.int .i64 0, .int .i64 0, .nils]), (false, [.int .i64 1])]) m := by
  refine Ctr.enter Tryd.func11 rfl (by decide) (rs := [.cell 2 44, .tmp 3]) (nt := 43) rfl rfl fun hwf Q hQ => ?_
  refine AW.seq_k fun K hK => ?_
  refine AW.region (by decide) ?_
  simp only [push_cast, simprocAttr, hs]
  refine Thn_n ?_
  refine hK _ _ ?_
  clear hK K
  refine AW.seq_k fun K hK => ?_
  refine AW.seq_k fun K hK => ?_
  refine AW.region (by decide) ?_
  simp only [push_cast, simprocAttr, hs]
  refine CThen.by (filmRight_all W H rL nL rD nD rN nN rB nB rS nS rF nF fS fF _ (pS.mono _) (pF.mono _) bL) ?_
  simp only [push_cast, simprocAttr, hs]
  refine Thn_n ?_
  refine hK _ _ ?_
  clear hK K
  refine AW.cond_t rfl ?_
  refine AW.seq_k fun K hK => ?_
  refine AW.region (by decide) ?_
  simp only [push_cast, simprocAttr, hs]
  refine Thn_n ?_
  refine hK _ _ ?_
  clear hK K
  refine AW.ret ?_
  refine Thn_r ?_
  refine hQ _ _ _ ?_
  first | refine RetP.drop0 (Or.inr rfl) ?_ ?_ hwf | refine RetP.drop (Or.inr rfl) ?_ ?_ hwf
  · simp only [resA, resOne, resTv, AV.tv, push_cast, simprocAttr, hs]
  · rfl
theorem gray_c (a : Int) (m : AMem) : Ctr Tryd.prog 37 [.one (.int .i64 a)] m (.agg [.int .u8 (shadeI a), .int .u8 (shadeI a), .int .u8 (shadeI a)]) m := by
  refine Ctr.enter Tryd.func37 rfl (by decide) (rs := [.cell 2 69]) (nt := 10) rfl rfl fun hwf Q hQ => ?_
  refine AW.seq_k fun K hK => ?_
  refine AW.region (by decide) ?_
  simp only [push_cast, simprocAttr]
  refine Thn_n ?_
  refine hK _ _ ?_
  clear hK K
  refine AW.seq_k fun K hK => ?_
  refine AW.region (by decide) ?_
  simp only [push_cast, simprocAttr]
  refine CThen.by (shade_c _ _) ?_
  simp only [push_cast, simprocAttr]
  refine Thn_n ?_
  refine hK _ _ ?_
  clear hK K
  refine AW.seq_k fun K hK => ?_
  refine AW.region (by decide) ?_
  simp only [push_cast, simprocAttr]
  refine Thn_n ?_
  refine hK _ _ ?_
  clear hK K
  refine AW.ret ?_
  refine hQ _ _ _ ?_
  first | refine RetP.drop0 (Or.inr rfl) ?_ ?_ hwf | refine RetP.drop (Or.inr rfl) ?_ ?_ hwf
  · simp only [resA, resOne, resTv, AV.tv, push_cast, simprocAttr]
  · rfl
theorem norm1_c (a : Int) (m : AMem) : Ctr Tryd.prog 38 [.one (.int .i64 a)] m (.one (.int .u8 (norI a))) m := by
  refine Ctr.enter Tryd.func38 rfl (by decide) (rs := [.tmp 2]) (nt := 7) rfl rfl fun hwf Q hQ => ?_
  refine AW.seq_k fun K hK => ?_
  refine AW.region (by decide) ?_
  simp only [push_cast, simprocAttr]
  refine Thn_n ?_
  refine hK _ _ ?_
  clear hK K
  refine AW.seq_k fun K hK => ?_
  refine AW.region (by decide) ?_
  simp only [push_cast, simprocAttr]
  refine CThen.by (add_c _ _ _) ?_
  simp only [push_cast, simprocAttr]
  refine CThen.by (div_c _ _ _) ?_
  simp only [push_cast, simprocAttr]
  refine CThen.by (shade_c _ _) ?_
  simp only [push_cast, simprocAttr]
  refine Thn_n ?_
  refine hK _ _ ?_
  clear hK K
  refine AW.ret ?_
  refine hQ _ _ _ ?_
  first | refine RetP.drop0 (Or.inr rfl) ?_ ?_ hwf | refine RetP.drop (Or.inr rfl) ?_ ?_ hwf
  · simp only [resA, resOne, resTv, AV.tv, push_cast, simprocAttr, norI]
  · rfl
theorem depths_ok (W H : Int) (rL nL rD nD rN nN rB nB rS nS rF nF : Nat) (GL GN GB : Nat → Nat → Int) (fD fS fF : Nat → Int) (m : AMem) (hs : filmR W H nL nD nN nB nS nF fS fF = true) (pL : HRow m 79 rL nL GL) (pB : HRow m 79 rB nB GB) (pD : IRow m 71 rD nD fD) (pN : HRow m 75 rN nN GN) (pS : IRow m 3 rS nS fS) (pF : IRow m 3 rF nF fF) (bD : nD ≤ 1048576) (bL : nL ≤ 1048576) : Ctr Tryd.prog 10 [.agg [.int .i64 W, .int .i64 H, .sl rL 0 0 nL, .sl rD 0 0 nD, .sl rN 0 0 nN, .sl rB 0 0 nB, .sl rS 0 0 nS, .sl rF 0 0 nF]] m (.tup [(true, [.int .i64 W, .int .i64 H, .sl m.length 0 0 nD]), (false, [.int .i64 0])]) (m ++ [⟨.grow, 69, 0, 3, d8 nD (depG fD fS)⟩]) := by
  refine Ctr.enter Tryd.func10 rfl (by decide) (rs := [.cell 2 44, .tmp 3]) (nt := 43) rfl rfl fun hwf Q hQ => ?_
  obtain ⟨kL, eL, hLb⟩ := pL.hb
  have lL := get_lt hLb
  obtain ⟨kB, eB, hBb⟩ := pB.hb
  have lB := get_lt hBb
  obtain ⟨kD, eD, hDb⟩ := pD.hb
  have lD := get_lt hDb
  obtain ⟨kN, eN, hNb⟩ := pN.hb
  have lN := get_lt hNb
  obtain ⟨kS, eS, hSb⟩ := pS.hb
  have lS := get_lt hSb
  obtain ⟨kF, eF, hFb⟩ := pF.hb
  have lF := get_lt hFb
  have hlt0 : ∀ k, ¬ m.length + k < m.length := fun k => by omega
  obtain ⟨eD, eN, eS⟩ := filmR_len hs
  
  refine AW.seq_k fun K hK => ?_
  refine AW.region (by decide) ?_
  simp only [push_cast, simprocAttr, hs, dl_len, il_len, hLb, lk_old hLb, hBb, lk_old hBb, hDb, lk_old hDb, hNb, lk_old hNb, hSb, lk_old hSb, hFb, lk_old hFb]
  refine Thn_n ?_
  refine hK _ _ ?_
  clear hK K
  refine AW.seq_k fun K hK => ?_
  refine AW.seq_k fun K hK => ?_
  refine AW.region (by decide) ?_
  simp only [push_cast, simprocAttr, hs, dl_len, il_len, hLb, lk_old hLb, hBb, lk_old hBb, hDb, lk_old hDb, hNb, lk_old hNb, hSb, lk_old hSb, hFb, lk_old hFb]
  refine CThen.by (filmRight_all W H rL nL rD nD rN nN rB nB rS nS rF nF fS fF _ (pS.mono _) (pF.mono _) bL) ?_
  simp only [push_cast, simprocAttr, hs, dl_len, il_len, hLb, lk_old hLb, hBb, lk_old hBb, hDb, lk_old hDb, hNb, lk_old hNb, hSb, lk_old hSb, hFb, lk_old hFb]
  refine Thn_n ?_
  refine hK _ _ ?_
  clear hK K
  refine AW.cond_f rfl ?_
  refine AW.skip ?_
  refine Thn_n ?_
  refine hK _ _ ?_
  clear hK K
  refine AW.seq_k fun K hK => ?_
  refine AW.region (by decide) ?_
  simp only [push_cast, simprocAttr, hs, dl_len, il_len, hLb, lk_old hLb, hBb, lk_old hBb, hDb, lk_old hDb, hNb, lk_old hNb, hSb, lk_old hSb, hFb, lk_old hFb]
  refine Thn_n ?_
  refine hK _ _ ?_
  clear hK K
  refine AW.seq_k fun K hK => ?_
  refine AW.seq_k fun K hK => ?_
  refine AW.region (by decide) ?_
  simp only [push_cast, simprocAttr, hs, dl_len, il_len, hLb, lk_old hLb, hBb, lk_old hBb, hDb, lk_old hDb, hNb, lk_old hNb, hSb, lk_old hSb, hFb, lk_old hFb]
  refine Thn_n ?_
  refine hK _ _ ?_
  clear hK K
  refine AW.block ?_
  refine AW.nilCell 69 3 (m.length + 2) 2 (by simp only [push_cast, simprocAttr, hs, dl_len, il_len, hLb, lk_old hLb, hBb, lk_old hBb, hDb, lk_old hDb, hNb, lk_old hNb, hSb, lk_old hSb, hFb, lk_old hFb]; first | done | rfl) (by intro e; cases e) rfl ?_
  try simp only [push_cast, simprocAttr, hs, dl_len, il_len, hLb, lk_old hLb, hBb, lk_old hBb, hDb, lk_old hDb, hNb, lk_old hNb, hSb, lk_old hSb, hFb, lk_old hFb]
  refine AW.loopK [1, 2, 4, 17, 18] (fun i => i ≤ nD) (fun i => [(19, .one (.int .i64 (i : Int)))]) (fun i => [(m.length + 2, ⟨.fix, 44, 0, 0, [.int .i64 W, .int .i64 H, .sl (m.length + 3) i 0 i]⟩), (m.length + 3, ⟨.grow, 69, i, 3, d8 i (depG fD fS)⟩)]) (fun i => nD - i) 0 (by omega) ?_ ?_ fun i hi7 => ?_
  · first | rfl | (simp only [Keeps, Tm.get_cons, Nat.reduceEqDiff, ↓reduceIte, if_true, if_false, ite_true, ite_false, true_and, and_true, and_self, reduceCtorEq, d8, Int.natCast_zero] <;> rfl)
  · first | rfl | (simp only [setAll, push_cast, simprocAttr, hs, dl_len, il_len, hLb, lk_old hLb, hBb, lk_old hBb, hDb, lk_old hDb, hNb, lk_old hNb, hSb, lk_old hSb, hFb, lk_old hFb, d8, Int.natCast_zero] <;> rfl)
  try simp only [keepL, setAll, push_cast, simprocAttr, hs, dl_len, il_len, hLb, lk_old hLb, hBb, lk_old hBb, hDb, lk_old hDb, hNb, lk_old hNb, hSb, lk_old hSb, hFb, lk_old hFb]
  refine AW.seq_k fun K hK => ?_
  refine AW.region (by decide) ?_
  simp only [push_cast, simprocAttr, hs, dl_len, il_len, hLb, lk_old hLb, hBb, lk_old hBb, hDb, lk_old hDb, hNb, lk_old hNb, hSb, lk_old hSb, hFb, lk_old hFb]
  refine Thn_n ?_
  refine hK _ _ ?_
  clear hK K
  refine AW.seq_k fun K hK => ?_
  refine AW.cond rfl (fun h20 => ?_) (fun h20 => ?_)
  · have hlt : i < nD := by have := of_decide_eq_true h20; omega
    have c1 : (0 : Int) ≤ (i : Int) := by omega
    have c2 : (i : Int) < (nD : Int) := by omega
    have c3 : i * 3 + 3 ≤ nD * 3 := by omega
    have hS : i < nS := by omega
    have hSl : (i : Int) < (nS : Int) := by omega
    have gD := il_get (f := fD) hlt
    have gS := il_get (f := fS) hS
    have gi := d8_len i (depG fD fS)
    have q1 : i + 1 ≤ 140737488355328 := by omega
    have q2 : (i + 1) * 3 ≤ 140737488355328 := by omega
    have q3 : (i + 1) * 8 ≤ 140737488355328 := by omega
    refine AW.skip ?_
    refine Thn_n ?_
    refine hK _ _ ?_
    clear hK K
    refine AW.seq_k fun K hK => ?_
    refine AW.block ?_
    refine AW.seq_k fun K hK => ?_
    refine AW.region (by decide) ?_
    simp only [push_cast, simprocAttr, hs, dl_len, il_len, hLb, lk_old hLb, hBb, lk_old hBb, hDb, lk_old hDb, hNb, lk_old hNb, hSb, lk_old hSb, hFb, lk_old hFb, c1, c2, hSl, gD, gS, gi, q1, q2, q3, pos_max2]
    refine Thn_n ?_
    refine hK _ _ ?_
    clear hK K
    refine AW.seq_k fun K hK => ?_
    refine AW.region (by decide) ?_
    simp only [push_cast, simprocAttr, hs, dl_len, il_len, hLb, lk_old hLb, hBb, lk_old hBb, hDb, lk_old hDb, hNb, lk_old hNb, hSb, lk_old hSb, hFb, lk_old hFb, c1, c2, hSl, gD, gS, gi, q1, q2, q3, pos_max2]
    refine CThen.by (add_c _ _ _) ?_
    simp only [push_cast, simprocAttr, hs, dl_len, il_len, hLb, lk_old hLb, hBb, lk_old hBb, hDb, lk_old hDb, hNb, lk_old hNb, hSb, lk_old hSb, hFb, lk_old hFb, c1, c2, hSl, gD, gS, gi, q1, q2, q3, pos_max2]
    refine CThen.by (div_c _ _ _) ?_
    simp only [push_cast, simprocAttr, hs, dl_len, il_len, hLb, lk_old hLb, hBb, lk_old hBb, hDb, lk_old hDb, hNb, lk_old hNb, hSb, lk_old hSb, hFb, lk_old hFb, c1, c2, hSl, gD, gS, gi, q1, q2, q3, pos_max2]
    refine Thn_n ?_
    refine hK _ _ ?_
    clear hK K
    refine AW.seq_k fun K hK => ?_
    refine AW.seq_k fun K hK => ?_
    refine AW.region (by decide) ?_
    simp only [push_cast, simprocAttr, hs, dl_len, il_len, hLb, lk_old hLb, hBb, lk_old hBb, hDb, lk_old hDb, hNb, lk_old hNb, hSb, lk_old hSb, hFb, lk_old hFb, c1, c2, hSl, gD, gS, gi, q1, q2, q3, pos_max2]
    refine Thn_n ?_
    refine hK _ _ ?_
    clear hK K
    refine AW.condJ rfl [1, 2, 4, 17, 18, 19] [(7, .one (.int .i64 (grI (fD i) (fS i))))] [] (fun h33 => ?_) (fun h33 => ?_) ?_
    · have hx : grI (fD i) (fS i) = 0 := if_pos (of_decide_eq_true h33)
      refine AW.region (by decide) ?_
      simp only [push_cast, simprocAttr, hs, dl_len, il_len, hLb, lk_old hLb, hBb, lk_old hBb, hDb, lk_old hDb, hNb, lk_old hNb, hSb, lk_old hSb, hFb, lk_old hFb, c1, c2, hSl, gD, gS, gi, q1, q2, q3, pos_max2]
      refine Thn_n ?_
      try simp only [keepL, setAll, push_cast, simprocAttr, hs, dl_len, il_len, hLb, lk_old hLb, hBb, lk_old hBb, hDb, lk_old hDb, hNb, lk_old hNb, hSb, lk_old hSb, hFb, lk_old hFb, c1, c2, hSl, gD, gS, gi, q1, q2, q3, pos_max2, hx]
      exact Weak.same (by simp only [Keeps, Tm.get_cons, Nat.reduceEqDiff, ↓reduceIte, if_true, if_false, ite_true, ite_false, true_and, and_true, and_self, reduceCtorEq, hx]) (by first | rfl | simp only [Keeps, Tm.get_cons, Nat.reduceEqDiff, ↓reduceIte, if_true, if_false, ite_true, ite_false, true_and, and_true, and_self, reduceCtorEq, hx])
    · have hx : grI (fD i) (fS i) = divI 65536 (addI 65536 (posI (fD i))) := if_neg (of_decide_eq_false h33)
      refine AW.skip ?_
      refine Thn_n ?_
      try simp only [keepL, setAll, push_cast, simprocAttr, hs, dl_len, il_len, hLb, lk_old hLb, hBb, lk_old hBb, hDb, lk_old hDb, hNb, lk_old hNb, hSb, lk_old hSb, hFb, lk_old hFb, c1, c2, hSl, gD, gS, gi, q1, q2, q3, pos_max2, hx]
      exact Weak.same (by simp only [Keeps, Tm.get_cons, Nat.reduceEqDiff, ↓reduceIte, if_true, if_false, ite_true, ite_false, true_and, and_true, and_self, reduceCtorEq, hx]) (by first | rfl | simp only [Keeps, Tm.get_cons, Nat.reduceEqDiff, ↓reduceIte, if_true, if_false, ite_true, ite_false, true_and, and_true, and_self, reduceCtorEq, hx])
    try simp only [keepL, setAll, push_cast, simprocAttr, hs, dl_len, il_len, hLb, lk_old hLb, hBb, lk_old hBb, hDb, lk_old hDb, hNb, lk_old hNb, hSb, lk_old hSb, hFb, lk_old hFb, c1, c2, hSl, gD, gS, gi, q1, q2, q3, pos_max2]
    refine Thn_n ?_
    refine hK _ _ ?_
    clear hK K
    refine AW.draw [.val, .rd 0, .val, .ext, .ext, .wr, .val, .wr] fol (by decide) (by kernel_rfl) ?_
    simp only [push_cast, simprocAttr, hs, dl_len, il_len, hLb, lk_old hLb, hBb, lk_old hBb, hDb, lk_old hDb, hNb, lk_old hNb, hSb, lk_old hSb, hFb, lk_old hFb, c1, c2, hSl, gD, gS, gi, q1, q2, q3, pos_max2]
    refine DCall.by0 (gray_c _ _) ?_
    simp only [push_cast, simprocAttr, hs, dl_len, il_len, hLb, lk_old hLb, hBb, lk_old hBb, hDb, lk_old hDb, hNb, lk_old hNb, hSb, lk_old hSb, hFb, lk_old hFb, c1, c2, hSl, gD, gS, gi, q1, q2, q3, pos_max2]
    refine DExt.by (by first | rfl | exact (List.append_nil _).symm | (simp only [List.append_assoc, List.cons_append, List.nil_append]; rfl)) ?_
    simp only [push_cast, simprocAttr, hs, dl_len, il_len, hLb, lk_old hLb, hBb, lk_old hBb, hDb, lk_old hDb, hNb, lk_old hNb, hSb, lk_old hSb, hFb, lk_old hFb, c1, c2, hSl, gD, gS, gi, q1, q2, q3, pos_max2]
    refine InB_n ?_
    refine Thn_n ?_
    refine hK _ _ ?_
    clear hK K
    refine AW.region (by decide) ?_
    simp only [push_cast, simprocAttr, hs, dl_len, il_len, hLb, lk_old hLb, hBb, lk_old hBb, hDb, lk_old hDb, hNb, lk_old hNb, hSb, lk_old hSb, hFb, lk_old hFb, c1, c2, hSl, gD, gS, gi, q1, q2, q3, pos_max2]
    refine Thn_n ?_
    have hwi : IntKind.i64.wrap ((i:Int)+1) = (i:Int)+1 := wi (by omega)
    have hsn : d8 i (depG fD fS) ++ [.int .u8 (depI (fD i) (fS i)), .int .u8 (depI (fD i) (fS i)), .int .u8 (depI (fD i) (fS i))] = d8 (i + 1) (depG fD fS) := rfl
    unfold depI at hsn
    refine ⟨i + 1, by omega, by omega, ?_⟩
    try simp only [keepL, setAll, push_cast, simprocAttr, hs, dl_len, il_len, hLb, lk_old hLb, hBb, lk_old hBb, hDb, lk_old hDb, hNb, lk_old hNb, hSb, lk_old hSb, hFb, lk_old hFb, c1, c2, hSl, gD, gS, gi, q1, q2, q3, pos_max2, hwi, hsn]
    exact Weak.to (extra := [_]) (by simp only [Keeps, Tm.get_cons, Nat.reduceEqDiff, ↓reduceIte, if_true, if_false, ite_true, ite_false, true_and, and_true, and_self, reduceCtorEq, hwi, hsn]) (by first | rfl | (simp only [List.append_assoc, List.cons_append, List.nil_append]; rfl)) (by first | rfl | (simp [AV.below, CV.below, d8_below]; done) | (simp [AV.below, CV.below, d8_below]; omega)) (by
      first | exact hwf | refine MWf.app (hwf.grow (by simp)) ?_
      repeat (first | exact MWf_nil | (refine MWf_cons ?_ ?_; · first | rfl | (simp [CV.below, d8_below]; done) | (simp [CV.below, d8_below]; omega))))
  · have hin : nD = i := by have := of_decide_eq_false h20; omega
    subst hin
    refine AW.exit ?_
    refine Thn_e ?_
    clear hK K
    refine Thn_e ?_
    refine InB_here ?_
    refine Thn_n ?_
    refine hK _ _ ?_
    clear hK K
    refine AW.seq_k fun K hK => ?_
    refine AW.region (by decide) ?_
    simp only [push_cast, simprocAttr, hs, dl_len, il_len, hLb, lk_old hLb, hBb, lk_old hBb, hDb, lk_old hDb, hNb, lk_old hNb, hSb, lk_old hSb, hFb, lk_old hFb]
    refine Thn_n ?_
    refine hK _ _ ?_
    clear hK K
    refine AW.ret ?_
    refine hQ _ _ _ ?_
    refine RetP.pick [(m.length + 3, nD)] (Or.inr rfl) ?_ ?_ ?_ hwf ?_
    · simp only [resA, resOne, resTv, AV.tv, push_cast, simprocAttr]
      simp [renV, renT, renL, renC, renIdx, hlt0]
    · simp only [picks, push_cast, simprocAttr]
    · simp [distinctFrom]
    · exact MWf_one (d8_below _ _ _)
    
theorem rdepths_c (W H : Int) (rL nL rD nD rN nN rB nB rS nS rF nF : Nat) (GL GN GB : Nat → Nat → Int) (fD fS fF : Nat → Int) (m : AMem) (hs : filmR W H nL nD nN nB nS nF fS fF = true) (pL : HRow m 77 rL nL GL) (pB : HRow m 77 rB nB GB) (pD : IRow m 2 rD nD fD) (pN : HRow m 73 rN nN GN) (pS : IRow m 3 rS nS fS) (pF : IRow m 3 rF nF fF) (bD : nD ≤ 1048576) : Ctr Tryd.prog 18 [.agg [.int .i64 W, .int .i64 H, .sl rL 0 0 nL, .sl rD 0 0 nD, .sl rN 0 0 nN, .sl rB 0 0 nB, .sl rS 0 0 nS, .sl rF 0 0 nF]] m (.agg [.int .i64 W, .int .i64 H, .sl m.length 0 0 nD]) (m ++ [⟨.grow, 69, 0, 3, d8 nD (depG fD fS)⟩]) := by
  refine Ctr.enter Tryd.func18 rfl (by decide) (rs := [.cell 2 52]) (nt := 50) rfl rfl fun hwf Q hQ => ?_
  obtain ⟨kL, eL, hLb⟩ := pL.hb
  have lL := get_lt hLb
  obtain ⟨kB, eB, hBb⟩ := pB.hb
  have lB := get_lt hBb
  obtain ⟨kD, eD, hDb⟩ := pD.hb
  have lD := get_lt hDb
  obtain ⟨kN, eN, hNb⟩ := pN.hb
  have lN := get_lt hNb
  obtain ⟨kS, eS, hSb⟩ := pS.hb
  have lS := get_lt hSb
  obtain ⟨kF, eF, hFb⟩ := pF.hb
  have lF := get_lt hFb
  have hlt0 : ∀ k, ¬ m.length + k < m.length := fun k => by omega
  obtain ⟨eD, eN, eS⟩ := filmR_len hs
  
  iterate 2
    refine AW.seq_k fun K hK => ?_
    refine AW.region (by decide) ?_
    simp only [push_cast, simprocAttr, dl_len, il_len, hLb, lk_old hLb, hBb, lk_old hBb, hDb, lk_old hDb, hNb, lk_old hNb, hSb, lk_old hSb, hFb, lk_old hFb]
    refine Thn_n ?_
    refine hK _ _ ?_
    clear hK K
  refine AW.seq_k fun K hK => ?_
  refine AW.seq_k fun K hK => ?_
  refine AW.region (by decide) ?_
  simp only [push_cast, simprocAttr, dl_len, il_len, hLb, lk_old hLb, hBb, lk_old hBb, hDb, lk_old hDb, hNb, lk_old hNb, hSb, lk_old hSb, hFb, lk_old hFb]
  refine Thn_n ?_
  refine hK _ _ ?_
  clear hK K
  refine AW.block ?_
  refine AW.nilCell 69 3 (m.length + 2) 2 (by simp only [push_cast, simprocAttr, dl_len, il_len, hLb, lk_old hLb, hBb, lk_old hBb, hDb, lk_old hDb, hNb, lk_old hNb, hSb, lk_old hSb, hFb, lk_old hFb]; first | done | rfl) (by intro e; cases e) rfl ?_
  try simp only [push_cast, simprocAttr, dl_len, il_len, hLb, lk_old hLb, hBb, lk_old hBb, hDb, lk_old hDb, hNb, lk_old hNb, hSb, lk_old hSb, hFb, lk_old hFb]
  refine AW.loopK [1, 2, 3] (fun i => i ≤ nD) (fun i => [(4, .one (.int .i64 (i : Int)))]) (fun i => [(m.length + 2, ⟨.fix, 52, 0, 0, [.int .i64 W, .int .i64 H, .sl (m.length + 3) i 0 i]⟩), (m.length + 3, ⟨.grow, 69, i, 3, d8 i (depG fD fS)⟩)]) (fun i => nD - i) 0 (by omega) ?_ ?_ fun i hi5 => ?_
  · first | rfl | (simp only [Keeps, Tm.get_cons, Nat.reduceEqDiff, ↓reduceIte, if_true, if_false, ite_true, ite_false, true_and, and_true, and_self, reduceCtorEq, d8, Int.natCast_zero] <;> rfl)
  · first | rfl | (simp only [setAll, push_cast, simprocAttr, dl_len, il_len, hLb, lk_old hLb, hBb, lk_old hBb, hDb, lk_old hDb, hNb, lk_old hNb, hSb, lk_old hSb, hFb, lk_old hFb, d8, Int.natCast_zero] <;> rfl)
  try simp only [keepL, setAll, push_cast, simprocAttr, dl_len, il_len, hLb, lk_old hLb, hBb, lk_old hBb, hDb, lk_old hDb, hNb, lk_old hNb, hSb, lk_old hSb, hFb, lk_old hFb]
  refine AW.seq_k fun K hK => ?_
  refine AW.seq_k fun K hK => ?_
  refine AW.region (by decide) ?_
  simp only [push_cast, simprocAttr, dl_len, il_len, hLb, lk_old hLb, hBb, lk_old hBb, hDb, lk_old hDb, hNb, lk_old hNb, hSb, lk_old hSb, hFb, lk_old hFb]
  refine Thn_n ?_
  refine hK _ _ ?_
  clear hK K
  refine AW.cond rfl (fun h19 => ?_) (fun h19 => ?_)
  · have hlt : i < nD := by have := of_decide_eq_true h19; omega
    have c1 : (0 : Int) ≤ (i : Int) := by omega
    have c2 : (i : Int) < (nD : Int) := by omega
    have c3 : i * 3 + 3 ≤ nD * 3 := by omega
    have hS : i < nS := by omega
    have hSl : (i : Int) < (nS : Int) := by omega
    have gD := il_get (f := fD) hlt
    have gS := il_get (f := fS) hS
    have gi := d8_len i (depG fD fS)
    have q1 : i + 1 ≤ 140737488355328 := by omega
    have q2 : (i + 1) * 3 ≤ 140737488355328 := by omega
    have q3 : (i + 1) * 8 ≤ 140737488355328 := by omega
    refine AW.skip ?_
    refine Thn_n ?_
    refine hK _ _ ?_
    clear hK K
    refine AW.seq_k fun K hK => ?_
    refine AW.block ?_
    refine AW.seq_k fun K hK => ?_
    refine AW.region (by decide) ?_
    simp only [push_cast, simprocAttr, dl_len, il_len, hLb, lk_old hLb, hBb, lk_old hBb, hDb, lk_old hDb, hNb, lk_old hNb, hSb, lk_old hSb, hFb, lk_old hFb, c1, c2, hSl, gD, gS, gi, q1, q2, q3, pos_max2]
    refine Thn_n ?_
    refine hK _ _ ?_
    clear hK K
    refine AW.seq_k fun K hK => ?_
    refine AW.seq_k fun K hK => ?_
    refine AW.region (by decide) ?_
    simp only [push_cast, simprocAttr, dl_len, il_len, hLb, lk_old hLb, hBb, lk_old hBb, hDb, lk_old hDb, hNb, lk_old hNb, hSb, lk_old hSb, hFb, lk_old hFb, c1, c2, hSl, gD, gS, gi, q1, q2, q3, pos_max2]
    refine Thn_n ?_
    refine hK _ _ ?_
    clear hK K
    refine AW.condJ rfl [1, 2, 3, 4] [(5, .one (.int .i64 (posI (fD i))))] [] (fun h28 => ?_) (fun h28 => ?_) ?_
    · have hx : posI (fD i) = 0 := if_pos (of_decide_eq_true h28)
      refine AW.region (by decide) ?_
      simp only [push_cast, simprocAttr, dl_len, il_len, hLb, lk_old hLb, hBb, lk_old hBb, hDb, lk_old hDb, hNb, lk_old hNb, hSb, lk_old hSb, hFb, lk_old hFb, c1, c2, hSl, gD, gS, gi, q1, q2, q3, pos_max2]
      refine Thn_n ?_
      try simp only [keepL, setAll, push_cast, simprocAttr, dl_len, il_len, hLb, lk_old hLb, hBb, lk_old hBb, hDb, lk_old hDb, hNb, lk_old hNb, hSb, lk_old hSb, hFb, lk_old hFb, c1, c2, hSl, gD, gS, gi, q1, q2, q3, pos_max2, hx]
      exact Weak.same (by simp only [Keeps, Tm.get_cons, Nat.reduceEqDiff, ↓reduceIte, if_true, if_false, ite_true, ite_false, true_and, and_true, and_self, reduceCtorEq, hx]) (by first | rfl | simp only [Keeps, Tm.get_cons, Nat.reduceEqDiff, ↓reduceIte, if_true, if_false, ite_true, ite_false, true_and, and_true, and_self, reduceCtorEq, hx])
    · have hx : posI (fD i) = fD i := if_neg (of_decide_eq_false h28)
      refine AW.skip ?_
      refine Thn_n ?_
      try simp only [keepL, setAll, push_cast, simprocAttr, dl_len, il_len, hLb, lk_old hLb, hBb, lk_old hBb, hDb, lk_old hDb, hNb, lk_old hNb, hSb, lk_old hSb, hFb, lk_old hFb, c1, c2, hSl, gD, gS, gi, q1, q2, q3, pos_max2, hx]
      exact Weak.same (by simp only [Keeps, Tm.get_cons, Nat.reduceEqDiff, ↓reduceIte, if_true, if_false, ite_true, ite_false, true_and, and_true, and_self, reduceCtorEq, hx]) (by first | rfl | simp only [Keeps, Tm.get_cons, Nat.reduceEqDiff, ↓reduceIte, if_true, if_false, ite_true, ite_false, true_and, and_true, and_self, reduceCtorEq, hx])
    try simp only [keepL, setAll, push_cast, simprocAttr, dl_len, il_len, hLb, lk_old hLb, hBb, lk_old hBb, hDb, lk_old hDb, hNb, lk_old hNb, hSb, lk_old hSb, hFb, lk_old hFb, c1, c2, hSl, gD, gS, gi, q1, q2, q3, pos_max2]
    refine Thn_n ?_
    refine hK _ _ ?_
    clear hK K
    refine AW.seq_k fun K hK => ?_
    refine AW.region (by decide) ?_
    simp only [push_cast, simprocAttr, dl_len, il_len, hLb, lk_old hLb, hBb, lk_old hBb, hDb, lk_old hDb, hNb, lk_old hNb, hSb, lk_old hSb, hFb, lk_old hFb, c1, c2, hSl, gD, gS, gi, q1, q2, q3, pos_max2]
    refine CThen.by (radd_c _ _ _) ?_
    simp only [push_cast, simprocAttr, dl_len, il_len, hLb, lk_old hLb, hBb, lk_old hBb, hDb, lk_old hDb, hNb, lk_old hNb, hSb, lk_old hSb, hFb, lk_old hFb, c1, c2, hSl, gD, gS, gi, q1, q2, q3, pos_max2]
    refine CThen.by (rdiv_c _ _ _) ?_
    simp only [push_cast, simprocAttr, dl_len, il_len, hLb, lk_old hLb, hBb, lk_old hBb, hDb, lk_old hDb, hNb, lk_old hNb, hSb, lk_old hSb, hFb, lk_old hFb, c1, c2, hSl, gD, gS, gi, q1, q2, q3, pos_max2]
    refine Thn_n ?_
    refine hK _ _ ?_
    clear hK K
    refine AW.seq_k fun K hK => ?_
    refine AW.seq_k fun K hK => ?_
    refine AW.region (by decide) ?_
    simp only [push_cast, simprocAttr, dl_len, il_len, hLb, lk_old hLb, hBb, lk_old hBb, hDb, lk_old hDb, hNb, lk_old hNb, hSb, lk_old hSb, hFb, lk_old hFb, c1, c2, hSl, gD, gS, gi, q1, q2, q3, pos_max2]
    refine Thn_n ?_
    refine hK _ _ ?_
    clear hK K
    refine AW.condJ rfl [1, 2, 3, 4] [(6, .one (.int .i64 (grI (fD i) (fS i))))] [] (fun h37 => ?_) (fun h37 => ?_) ?_
    · have hx : grI (fD i) (fS i) = 0 := if_pos (of_decide_eq_true h37)
      refine AW.region (by decide) ?_
      simp only [push_cast, simprocAttr, dl_len, il_len, hLb, lk_old hLb, hBb, lk_old hBb, hDb, lk_old hDb, hNb, lk_old hNb, hSb, lk_old hSb, hFb, lk_old hFb, c1, c2, hSl, gD, gS, gi, q1, q2, q3, pos_max2]
      refine Thn_n ?_
      try simp only [keepL, setAll, push_cast, simprocAttr, dl_len, il_len, hLb, lk_old hLb, hBb, lk_old hBb, hDb, lk_old hDb, hNb, lk_old hNb, hSb, lk_old hSb, hFb, lk_old hFb, c1, c2, hSl, gD, gS, gi, q1, q2, q3, pos_max2, hx]
      exact Weak.same (by simp only [Keeps, Tm.get_cons, Nat.reduceEqDiff, ↓reduceIte, if_true, if_false, ite_true, ite_false, true_and, and_true, and_self, reduceCtorEq, hx]) (by first | rfl | simp only [Keeps, Tm.get_cons, Nat.reduceEqDiff, ↓reduceIte, if_true, if_false, ite_true, ite_false, true_and, and_true, and_self, reduceCtorEq, hx])
    · have hx : grI (fD i) (fS i) = divI 65536 (addI 65536 (posI (fD i))) := if_neg (of_decide_eq_false h37)
      refine AW.skip ?_
      refine Thn_n ?_
      try simp only [keepL, setAll, push_cast, simprocAttr, dl_len, il_len, hLb, lk_old hLb, hBb, lk_old hBb, hDb, lk_old hDb, hNb, lk_old hNb, hSb, lk_old hSb, hFb, lk_old hFb, c1, c2, hSl, gD, gS, gi, q1, q2, q3, pos_max2, hx]
      exact Weak.same (by simp only [Keeps, Tm.get_cons, Nat.reduceEqDiff, ↓reduceIte, if_true, if_false, ite_true, ite_false, true_and, and_true, and_self, reduceCtorEq, hx]) (by first | rfl | simp only [Keeps, Tm.get_cons, Nat.reduceEqDiff, ↓reduceIte, if_true, if_false, ite_true, ite_false, true_and, and_true, and_self, reduceCtorEq, hx])
    try simp only [keepL, setAll, push_cast, simprocAttr, dl_len, il_len, hLb, lk_old hLb, hBb, lk_old hBb, hDb, lk_old hDb, hNb, lk_old hNb, hSb, lk_old hSb, hFb, lk_old hFb, c1, c2, hSl, gD, gS, gi, q1, q2, q3, pos_max2]
    refine Thn_n ?_
    refine hK _ _ ?_
    clear hK K
    refine AW.seq_k fun K hK => ?_
    refine AW.region (by decide) ?_
    simp only [push_cast, simprocAttr, dl_len, il_len, hLb, lk_old hLb, hBb, lk_old hBb, hDb, lk_old hDb, hNb, lk_old hNb, hSb, lk_old hSb, hFb, lk_old hFb, c1, c2, hSl, gD, gS, gi, q1, q2, q3, pos_max2]
    refine CThen.by (rshade_c _ _) ?_
    simp only [push_cast, simprocAttr, dl_len, il_len, hLb, lk_old hLb, hBb, lk_old hBb, hDb, lk_old hDb, hNb, lk_old hNb, hSb, lk_old hSb, hFb, lk_old hFb, c1, c2, hSl, gD, gS, gi, q1, q2, q3, pos_max2]
    refine Thn_n ?_
    refine hK _ _ ?_
    clear hK K
    refine AW.region (by decide) ?_
    simp only [push_cast, simprocAttr, dl_len, il_len, hLb, lk_old hLb, hBb, lk_old hBb, hDb, lk_old hDb, hNb, lk_old hNb, hSb, lk_old hSb, hFb, lk_old hFb, c1, c2, hSl, gD, gS, gi, q1, q2, q3, pos_max2]
    refine InB_n ?_
    refine Thn_n ?_
    refine hK _ _ ?_
    clear hK K
    refine AW.region (by decide) ?_
    simp only [push_cast, simprocAttr, dl_len, il_len, hLb, lk_old hLb, hBb, lk_old hBb, hDb, lk_old hDb, hNb, lk_old hNb, hSb, lk_old hSb, hFb, lk_old hFb, c1, c2, hSl, gD, gS, gi, q1, q2, q3, pos_max2]
    refine Thn_n ?_
    have hwi : IntKind.i64.wrap ((i:Int)+1) = (i:Int)+1 := wi (by omega)
    have hsn : d8 i (depG fD fS) ++ [.int .u8 (depI (fD i) (fS i)), .int .u8 (depI (fD i) (fS i)), .int .u8 (depI (fD i) (fS i))] = d8 (i + 1) (depG fD fS) := rfl
    unfold depI at hsn
    refine ⟨i + 1, by omega, by omega, ?_⟩
    try simp only [keepL, setAll, push_cast, simprocAttr, dl_len, il_len, hLb, lk_old hLb, hBb, lk_old hBb, hDb, lk_old hDb, hNb, lk_old hNb, hSb, lk_old hSb, hFb, lk_old hFb, c1, c2, hSl, gD, gS, gi, q1, q2, q3, pos_max2, hwi, hsn]
    exact Weak.to (extra := [_]) (by simp only [Keeps, Tm.get_cons, Nat.reduceEqDiff, ↓reduceIte, if_true, if_false, ite_true, ite_false, true_and, and_true, and_self, reduceCtorEq, hwi, hsn]) (by first | rfl | (simp only [List.append_assoc, List.cons_append, List.nil_append]; rfl)) (by first | rfl | (simp [AV.below, CV.below, d8_below]; done) | (simp [AV.below, CV.below, d8_below]; omega)) (by
      first | exact hwf | refine MWf.app (hwf.grow (by simp)) ?_
      repeat (first | exact MWf_nil | (refine MWf_cons ?_ ?_; · first | rfl | (simp [CV.below, d8_below]; done) | (simp [CV.below, d8_below]; omega))))
  · have hin : nD = i := by have := of_decide_eq_false h19; omega
    subst hin
    refine AW.exit ?_
    refine Thn_e ?_
    clear hK K
    refine Thn_e ?_
    refine InB_here ?_
    refine Thn_n ?_
    refine hK _ _ ?_
    clear hK K
    refine AW.seq_k fun K hK => ?_
    refine AW.region (by decide) ?_
    simp only [push_cast, simprocAttr, dl_len, il_len, hLb, lk_old hLb, hBb, lk_old hBb, hDb, lk_old hDb, hNb, lk_old hNb, hSb, lk_old hSb, hFb, lk_old hFb]
    refine Thn_n ?_
    refine hK _ _ ?_
    clear hK K
    refine AW.ret ?_
    refine hQ _ _ _ ?_
    refine RetP.pick [(m.length + 3, nD)] (Or.inr rfl) ?_ ?_ ?_ hwf ?_
    · simp only [resA, resOne, resTv, AV.tv, push_cast, simprocAttr]
      simp [renV, renT, renL, renC, renIdx, hlt0]
    · simp only [picks, push_cast, simprocAttr]
    · simp [distinctFrom]
    · exact MWf_one (d8_below _ _ _)
    
theorem normals_ok (W H : Int) (rL nL rD nD rN nN rB nB rS nS rF nF : Nat) (GL GN GB : Nat → Nat → Int) (fD fS fF : Nat → Int) (m : AMem) (hs : filmR W H nL nD nN nB nS nF fS fF = true) (pL : HRow m 79 rL nL GL) (pB : HRow m 79 rB nB GB) (pD : IRow m 71 rD nD fD) (pN : HRow m 75 rN nN GN) (pS : IRow m 3 rS nS fS) (pF : IRow m 3 rF nF fF) (bD : nD ≤ 1048576) (bL : nL ≤ 1048576) (bN : nN ≤ 1048576) : Ctr Tryd.prog 11 [.agg [.int .i64 W, .int .i64 H, .sl rL 0 0 nL, .sl rD 0 0 nD, .sl rN 0 0 nN, .sl rB 0 0 nB, .sl rS 0 0 nS, .sl rF 0 0 nF]] m (.tup [(true, [.int .i64 W, .int .i64 H, .sl m.length 0 0 nN]), (false, [.int .i64 0])]) (m ++ [⟨.grow, 69, 0, 3, d8 nN (norG GN)⟩]) := by
  refine Ctr.enter Tryd.func11 rfl (by decide) (rs := [.cell 2 44, .tmp 3]) (nt := 43) rfl rfl fun hwf Q hQ => ?_
  obtain ⟨kL, eL, hLb⟩ := pL.hb
  have lL := get_lt hLb
  obtain ⟨kB, eB, hBb⟩ := pB.hb
  have lB := get_lt hBb
  obtain ⟨kD, eD, hDb⟩ := pD.hb
  have lD := get_lt hDb
  obtain ⟨kN, eN, hNb⟩ := pN.hb
  have lN := get_lt hNb
  obtain ⟨kS, eS, hSb⟩ := pS.hb
  have lS := get_lt hSb
  obtain ⟨kF, eF, hFb⟩ := pF.hb
  have lF := get_lt hFb
  have hlt0 : ∀ k, ¬ m.length + k < m.length := fun k => by omega
  obtain ⟨eD, eN, eS⟩ := filmR_len hs
  
  refine AW.seq_k fun K hK => ?_
  refine AW.region (by decide) ?_
  simp only [push_cast, simprocAttr, hs, dl_len, il_len, capsAV, hLb, lk_old hLb, hBb, lk_old hBb, hDb, lk_old hDb, hNb, lk_old hNb, hSb, lk_old hSb, hFb, lk_old hFb]
  refine Thn_n ?_
  refine hK _ _ ?_
  clear hK K
  refine AW.seq_k fun K hK => ?_
  refine AW.seq_k fun K hK => ?_
  refine AW.region (by decide) ?_
  simp only [push_cast, simprocAttr, hs, dl_len, il_len, capsAV, hLb, lk_old hLb, hBb, lk_old hBb, hDb, lk_old hDb, hNb, lk_old hNb, hSb, lk_old hSb, hFb, lk_old hFb]
  refine CThen.by (filmRight_all W H rL nL rD nD rN nN rB nB rS nS rF nF fS fF _ (pS.mono _) (pF.mono _) bL) ?_
  simp only [push_cast, simprocAttr, hs, dl_len, il_len, capsAV, hLb, lk_old hLb, hBb, lk_old hBb, hDb, lk_old hDb, hNb, lk_old hNb, hSb, lk_old hSb, hFb, lk_old hFb]
  refine Thn_n ?_
  refine hK _ _ ?_
  clear hK K
  refine AW.cond_f rfl ?_
  refine AW.skip ?_
  iterate 2
    refine Thn_n ?_
    refine hK _ _ ?_
    clear hK K
    refine AW.seq_k fun K hK => ?_
    refine AW.region (by decide) ?_
    simp only [push_cast, simprocAttr, hs, dl_len, il_len, capsAV, hLb, lk_old hLb, hBb, lk_old hBb, hDb, lk_old hDb, hNb, lk_old hNb, hSb, lk_old hSb, hFb, lk_old hFb]
  refine Thn_n ?_
  refine hK _ _ ?_
  clear hK K
  refine AW.seq_k fun K hK => ?_
  refine AW.seq_k fun K hK => ?_
  refine AW.region (by decide) ?_
  simp only [push_cast, simprocAttr, hs, dl_len, il_len, capsAV, hLb, lk_old hLb, hBb, lk_old hBb, hDb, lk_old hDb, hNb, lk_old hNb, hSb, lk_old hSb, hFb, lk_old hFb]
  refine Thn_n ?_
  refine hK _ _ ?_
  clear hK K
  refine AW.block ?_
  refine AW.nilCell 69 3 (m.length + 2) 2 (by simp only [push_cast, simprocAttr, hs, dl_len, il_len, capsAV, hLb, lk_old hLb, hBb, lk_old hBb, hDb, lk_old hDb, hNb, lk_old hNb, hSb, lk_old hSb, hFb, lk_old hFb]; first | done | rfl) (by intro e; cases e) rfl ?_
  try simp only [push_cast, simprocAttr, hs, dl_len, il_len, capsAV, hLb, lk_old hLb, hBb, lk_old hBb, hDb, lk_old hDb, hNb, lk_old hNb, hSb, lk_old hSb, hFb, lk_old hFb]
  refine AW.loopK [2, 4, 5, 17, 18] (fun i => i ≤ nN) (fun i => [(19, .one (.int .i64 (i : Int)))]) (fun i => [(m.length + 2, ⟨.fix, 44, 0, 0, [.int .i64 W, .int .i64 H, .sl (m.length + 3) i 0 i]⟩), (m.length + 3, ⟨.grow, 69, i, 3, d8 i (norG GN)⟩)]) (fun i => nN - i) 0 (by omega) ?_ ?_ fun i hi8 => ?_
  · first | rfl | (simp only [Keeps, Tm.get_cons, Nat.reduceEqDiff, ↓reduceIte, if_true, if_false, ite_true, ite_false, true_and, and_true, and_self, reduceCtorEq, d8, Int.natCast_zero] <;> rfl)
  · first | rfl | (simp only [setAll, push_cast, simprocAttr, hs, dl_len, il_len, capsAV, hLb, lk_old hLb, hBb, lk_old hBb, hDb, lk_old hDb, hNb, lk_old hNb, hSb, lk_old hSb, hFb, lk_old hFb, d8, Int.natCast_zero] <;> rfl)
  try simp only [keepL, setAll, push_cast, simprocAttr, hs, dl_len, il_len, capsAV, hLb, lk_old hLb, hBb, lk_old hBb, hDb, lk_old hDb, hNb, lk_old hNb, hSb, lk_old hSb, hFb, lk_old hFb]
  refine AW.seq_k fun K hK => ?_
  refine AW.region (by decide) ?_
  simp only [push_cast, simprocAttr, hs, dl_len, il_len, capsAV, hLb, lk_old hLb, hBb, lk_old hBb, hDb, lk_old hDb, hNb, lk_old hNb, hSb, lk_old hSb, hFb, lk_old hFb]
  refine Thn_n ?_
  refine hK _ _ ?_
  clear hK K
  refine AW.seq_k fun K hK => ?_
  refine AW.cond rfl (fun h20 => ?_) (fun h20 => ?_)
  · have hlt : i < nN := by have := of_decide_eq_true h20; omega
    have c1 : (0 : Int) ≤ (i : Int) := by omega
    have c2 : (i : Int) < (nN : Int) := by omega
    have c3 : i * 3 + 3 ≤ nN * 3 := by omega
    have g0 := dl_get0 (G := GN) hlt
    have g1 := dl_get1 (G := GN) hlt
    have g2 := dl_get2 (G := GN) hlt
    have g3 := dl_at (G := GN) hlt
    have gi := d8_len i (norG GN)
    have q1 : i + 1 ≤ 140737488355328 := by omega
    have q2 : (i + 1) * 3 ≤ 140737488355328 := by omega
    have q3 : (i + 1) * 8 ≤ 140737488355328 := by omega
    refine AW.skip ?_
    refine Thn_n ?_
    refine hK _ _ ?_
    clear hK K
    refine AW.seq_k fun K hK => ?_
    refine AW.block ?_
    refine AW.seq_k fun K hK => ?_
    refine AW.region (by decide) ?_
    simp only [push_cast, simprocAttr, hs, dl_len, il_len, capsAV, hLb, lk_old hLb, hBb, lk_old hBb, hDb, lk_old hDb, hNb, lk_old hNb, hSb, lk_old hSb, hFb, lk_old hFb, c1, c2, c3, g0, g1, g2, g3, gi, q1, q2, q3]
    refine Thn_n ?_
    refine hK _ _ ?_
    clear hK K
    refine AW.draw [.val, .rd 0, .val, .val, .rd 0, .ext, .val, .val, .rd 0, .ext, .val, .val, .rd 0, .ext, .val, .ext, .wr, .val, .wr] fol (by decide) (by kernel_rfl) ?_
    iterate 3
      simp only [push_cast, simprocAttr, hs, dl_len, il_len, capsAV, hLb, lk_old hLb, hBb, lk_old hBb, hDb, lk_old hDb, hNb, lk_old hNb, hSb, lk_old hSb, hFb, lk_old hFb, c1, c2, c3, g0, g1, g2, g3, gi, q1, q2, q3]
      refine DCall.by0 (norm1_c _ _) ?_
    simp only [push_cast, simprocAttr, hs, dl_len, il_len, capsAV, hLb, lk_old hLb, hBb, lk_old hBb, hDb, lk_old hDb, hNb, lk_old hNb, hSb, lk_old hSb, hFb, lk_old hFb, c1, c2, c3, g0, g1, g2, g3, gi, q1, q2, q3]
    refine DExt.by (by first | rfl | exact (List.append_nil _).symm | (simp only [List.append_assoc, List.cons_append, List.nil_append]; rfl)) ?_
    simp only [push_cast, simprocAttr, hs, dl_len, il_len, capsAV, hLb, lk_old hLb, hBb, lk_old hBb, hDb, lk_old hDb, hNb, lk_old hNb, hSb, lk_old hSb, hFb, lk_old hFb, c1, c2, c3, g0, g1, g2, g3, gi, q1, q2, q3]
    refine InB_n ?_
    refine Thn_n ?_
    refine hK _ _ ?_
    clear hK K
    refine AW.region (by decide) ?_
    simp only [push_cast, simprocAttr, hs, dl_len, il_len, capsAV, hLb, lk_old hLb, hBb, lk_old hBb, hDb, lk_old hDb, hNb, lk_old hNb, hSb, lk_old hSb, hFb, lk_old hFb, c1, c2, c3, g0, g1, g2, g3, gi, q1, q2, q3]
    refine Thn_n ?_
    have hwi : IntKind.i64.wrap ((i:Int)+1) = (i:Int)+1 := wi (by omega)
    have hsn : d8 i (norG GN) ++ [.int .u8 (norI (GN i 0)), .int .u8 (norI (GN i 1)), .int .u8 (norI (GN i 2))] = d8 (i + 1) (norG GN) := rfl
    refine ⟨i + 1, by omega, by omega, ?_⟩
    try simp only [keepL, setAll, push_cast, simprocAttr, hs, dl_len, il_len, capsAV, hLb, lk_old hLb, hBb, lk_old hBb, hDb, lk_old hDb, hNb, lk_old hNb, hSb, lk_old hSb, hFb, lk_old hFb, c1, c2, c3, g0, g1, g2, g3, gi, q1, q2, q3, hwi, hsn]
    exact Weak.to (extra := [_, _]) (by simp only [Keeps, Tm.get_cons, Nat.reduceEqDiff, ↓reduceIte, if_true, if_false, ite_true, ite_false, true_and, and_true, and_self, reduceCtorEq, hwi, hsn]) (by first | rfl | (simp only [List.append_assoc, List.cons_append, List.nil_append]; rfl)) (by first | rfl | (simp [AV.below, CV.below, d8_below]; done) | (simp [AV.below, CV.below, d8_below]; omega)) (by
      first | exact hwf | refine MWf.app (hwf.grow (by simp)) ?_
      repeat (first | exact MWf_nil | (refine MWf_cons ?_ ?_; · first | rfl | (simp [CV.below, d8_below]; done) | (simp [CV.below, d8_below]; omega))))
  · have hin : nN = i := by have := of_decide_eq_false h20; omega
    subst hin
    refine AW.exit ?_
    refine Thn_e ?_
    clear hK K
    refine Thn_e ?_
    refine InB_here ?_
    refine Thn_n ?_
    refine hK _ _ ?_
    clear hK K
    refine AW.seq_k fun K hK => ?_
    refine AW.region (by decide) ?_
    simp only [push_cast, simprocAttr, hs, dl_len, il_len, capsAV, hLb, lk_old hLb, hBb, lk_old hBb, hDb, lk_old hDb, hNb, lk_old hNb, hSb, lk_old hSb, hFb, lk_old hFb]
    refine Thn_n ?_
    refine hK _ _ ?_
    clear hK K
    refine AW.ret ?_
    refine hQ _ _ _ ?_
    refine RetP.pick [(m.length + 3, nN)] (Or.inr rfl) ?_ ?_ ?_ hwf ?_
    · simp only [resA, resOne, resTv, AV.tv, push_cast, simprocAttr]
      simp [renV, renT, renL, renC, renIdx, hlt0]
    · simp only [picks, push_cast, simprocAttr]
    · simp [distinctFrom]
    · exact MWf_one (d8_below _ _ _)
    
theorem rnormals_c (W H : Int) (rL nL rD nD rN nN rB nB rS nS rF nF : Nat) (GL GN GB : Nat → Nat → Int) (fD fS fF : Nat → Int) (m : AMem) (hs : filmR W H nL nD nN nB nS nF fS fF = true) (pL : HRow m 77 rL nL GL) (pB : HRow m 77 rB nB GB) (pD : IRow m 2 rD nD fD) (pN : HRow m 73 rN nN GN) (pS : IRow m 3 rS nS fS) (pF : IRow m 3 rF nF fF) (bD : nD ≤ 1048576) (bN : nN ≤ 1048576) : Ctr Tryd.prog 19 [.agg [.int .i64 W, .int .i64 H, .sl rL 0 0 nL, .sl rD 0 0 nD, .sl rN 0 0 nN, .sl rB 0 0 nB, .sl rS 0 0 nS, .sl rF 0 0 nF]] m (.agg [.int .i64 W, .int .i64 H, .sl m.length 0 0 nN]) (m ++ [⟨.grow, 69, 0, 3, d8 nN (norG GN)⟩]) := by
  refine Ctr.enter Tryd.func19 rfl (by decide) (rs := [.cell 2 52]) (nt := 44) rfl rfl fun hwf Q hQ => ?_
  obtain ⟨kL, eL, hLb⟩ := pL.hb
  have lL := get_lt hLb
  obtain ⟨kB, eB, hBb⟩ := pB.hb
  have lB := get_lt hBb
  obtain ⟨kD, eD, hDb⟩ := pD.hb
  have lD := get_lt hDb
  obtain ⟨kN, eN, hNb⟩ := pN.hb
  have lN := get_lt hNb
  obtain ⟨kS, eS, hSb⟩ := pS.hb
  have lS := get_lt hSb
  obtain ⟨kF, eF, hFb⟩ := pF.hb
  have lF := get_lt hFb
  have hlt0 : ∀ k, ¬ m.length + k < m.length := fun k => by omega
  obtain ⟨eD, eN, eS⟩ := filmR_len hs
  
  iterate 2
    refine AW.seq_k fun K hK => ?_
    refine AW.region (by decide) ?_
    simp only [push_cast, simprocAttr, dl_len, il_len, hLb, lk_old hLb, hBb, lk_old hBb, hDb, lk_old hDb, hNb, lk_old hNb, hSb, lk_old hSb, hFb, lk_old hFb]
    refine Thn_n ?_
    refine hK _ _ ?_
    clear hK K
  refine AW.seq_k fun K hK => ?_
  refine AW.seq_k fun K hK => ?_
  refine AW.region (by decide) ?_
  simp only [push_cast, simprocAttr, dl_len, il_len, hLb, lk_old hLb, hBb, lk_old hBb, hDb, lk_old hDb, hNb, lk_old hNb, hSb, lk_old hSb, hFb, lk_old hFb]
  refine Thn_n ?_
  refine hK _ _ ?_
  clear hK K
  refine AW.block ?_
  refine AW.nilCell 69 3 (m.length + 2) 2 (by simp only [push_cast, simprocAttr, dl_len, il_len, hLb, lk_old hLb, hBb, lk_old hBb, hDb, lk_old hDb, hNb, lk_old hNb, hSb, lk_old hSb, hFb, lk_old hFb]; first | done | rfl) (by intro e; cases e) rfl ?_
  try simp only [push_cast, simprocAttr, dl_len, il_len, hLb, lk_old hLb, hBb, lk_old hBb, hDb, lk_old hDb, hNb, lk_old hNb, hSb, lk_old hSb, hFb, lk_old hFb]
  refine AW.loopK [1, 2, 3] (fun i => i ≤ nN) (fun i => [(4, .one (.int .i64 (i : Int)))]) (fun i => [(m.length + 2, ⟨.fix, 52, 0, 0, [.int .i64 W, .int .i64 H, .sl (m.length + 3) i 0 i]⟩), (m.length + 3, ⟨.grow, 69, i, 3, d8 i (norG GN)⟩)]) (fun i => nN - i) 0 (by omega) ?_ ?_ fun i hi5 => ?_
  · first | rfl | (simp only [Keeps, Tm.get_cons, Nat.reduceEqDiff, ↓reduceIte, if_true, if_false, ite_true, ite_false, true_and, and_true, and_self, reduceCtorEq, d8, Int.natCast_zero] <;> rfl)
  · first | rfl | (simp only [setAll, push_cast, simprocAttr, dl_len, il_len, hLb, lk_old hLb, hBb, lk_old hBb, hDb, lk_old hDb, hNb, lk_old hNb, hSb, lk_old hSb, hFb, lk_old hFb, d8, Int.natCast_zero] <;> rfl)
  try simp only [keepL, setAll, push_cast, simprocAttr, dl_len, il_len, hLb, lk_old hLb, hBb, lk_old hBb, hDb, lk_old hDb, hNb, lk_old hNb, hSb, lk_old hSb, hFb, lk_old hFb]
  refine AW.seq_k fun K hK => ?_
  refine AW.seq_k fun K hK => ?_
  refine AW.region (by decide) ?_
  simp only [push_cast, simprocAttr, dl_len, il_len, hLb, lk_old hLb, hBb, lk_old hBb, hDb, lk_old hDb, hNb, lk_old hNb, hSb, lk_old hSb, hFb, lk_old hFb]
  refine Thn_n ?_
  refine hK _ _ ?_
  clear hK K
  refine AW.cond rfl (fun h18 => ?_) (fun h18 => ?_)
  · have hlt : i < nN := by have := of_decide_eq_true h18; omega
    have c1 : (0 : Int) ≤ (i : Int) := by omega
    have c2 : (i : Int) < (nN : Int) := by omega
    have c3 : i * 3 + 3 ≤ nN * 3 := by omega
    have g0 := dl_get0 (G := GN) hlt
    have g1 := dl_get1 (G := GN) hlt
    have g2 := dl_get2 (G := GN) hlt
    have g3 := dl_at (G := GN) hlt
    have gi := d8_len i (norG GN)
    have q1 : i + 1 ≤ 140737488355328 := by omega
    have q2 : (i + 1) * 3 ≤ 140737488355328 := by omega
    have q3 : (i + 1) * 8 ≤ 140737488355328 := by omega
    refine AW.skip ?_
    refine Thn_n ?_
    refine hK _ _ ?_
    clear hK K
    refine AW.seq_k fun K hK => ?_
    refine AW.block ?_
    refine AW.seq_k fun K hK => ?_
    refine AW.region (by decide) ?_
    simp only [push_cast, simprocAttr, dl_len, il_len, hLb, lk_old hLb, hBb, lk_old hBb, hDb, lk_old hDb, hNb, lk_old hNb, hSb, lk_old hSb, hFb, lk_old hFb, c1, c2, c3, g0, g1, g2, g3, gi, q1, q2, q3]
    refine Thn_n ?_
    refine hK _ _ ?_
    clear hK K
    refine AW.seq_k fun K hK => ?_
    refine AW.seq_k fun K hK => ?_
    refine AW.region (by decide) ?_
    simp only [push_cast, simprocAttr, dl_len, il_len, hLb, lk_old hLb, hBb, lk_old hBb, hDb, lk_old hDb, hNb, lk_old hNb, hSb, lk_old hSb, hFb, lk_old hFb, c1, c2, c3, g0, g1, g2, g3, gi, q1, q2, q3]
    refine Thn_n ?_
    refine hK _ _ ?_
    clear hK K
    refine AW.block ?_
    refine AW.rounds 4 ?_
    iterate 3
      refine ARounds.succ fun K hK => ?_
      refine AW.seq_k fun K hK => ?_
      refine AW.seq_k fun K hK => ?_
      refine AW.region (by decide) ?_
      simp only [push_cast, simprocAttr, dl_len, il_len, hLb, lk_old hLb, hBb, lk_old hBb, hDb, lk_old hDb, hNb, lk_old hNb, hSb, lk_old hSb, hFb, lk_old hFb, c1, c2, c3, g0, g1, g2, g3, gi, q1, q2, q3]
      refine Thn_n ?_
      refine hK _ _ ?_
      clear hK K
      refine AW.cond_t rfl ?_
      refine AW.skip ?_
      refine Thn_n ?_
      refine hK _ _ ?_
      clear hK K
      refine AW.seq_k fun K hK => ?_
      refine AW.block ?_
      refine AW.region (by decide) ?_
      simp only [push_cast, simprocAttr, dl_len, il_len, hLb, lk_old hLb, hBb, lk_old hBb, hDb, lk_old hDb, hNb, lk_old hNb, hSb, lk_old hSb, hFb, lk_old hFb, c1, c2, c3, g0, g1, g2, g3, gi, q1, q2, q3]
      refine CThen.by (radd_c _ _ _) ?_
      simp only [push_cast, simprocAttr, dl_len, il_len, hLb, lk_old hLb, hBb, lk_old hBb, hDb, lk_old hDb, hNb, lk_old hNb, hSb, lk_old hSb, hFb, lk_old hFb, c1, c2, c3, g0, g1, g2, g3, gi, q1, q2, q3]
      refine CThen.by (rdiv_c _ _ _) ?_
      simp only [push_cast, simprocAttr, dl_len, il_len, hLb, lk_old hLb, hBb, lk_old hBb, hDb, lk_old hDb, hNb, lk_old hNb, hSb, lk_old hSb, hFb, lk_old hFb, c1, c2, c3, g0, g1, g2, g3, gi, q1, q2, q3]
      refine CThen.by (rshade_c _ _) ?_
      simp only [push_cast, simprocAttr, dl_len, il_len, hLb, lk_old hLb, hBb, lk_old hBb, hDb, lk_old hDb, hNb, lk_old hNb, hSb, lk_old hSb, hFb, lk_old hFb, c1, c2, c3, g0, g1, g2, g3, gi, q1, q2, q3]
      refine InB_n ?_
      refine Thn_n ?_
      refine hK _ _ ?_
      clear hK K
      refine AW.region (by decide) ?_
      simp only [push_cast, simprocAttr, dl_len, il_len, hLb, lk_old hLb, hBb, lk_old hBb, hDb, lk_old hDb, hNb, lk_old hNb, hSb, lk_old hSb, hFb, lk_old hFb, c1, c2, c3, g0, g1, g2, g3, gi, q1, q2, q3]
      refine Thn_n ?_
      refine hK _ _ ?_
      clear hK K
    refine ARounds.succ fun K hK => ?_
    refine AW.seq_k fun K hK => ?_
    refine AW.seq_k fun K hK => ?_
    refine AW.region (by decide) ?_
    simp only [push_cast, simprocAttr, dl_len, il_len, hLb, lk_old hLb, hBb, lk_old hBb, hDb, lk_old hDb, hNb, lk_old hNb, hSb, lk_old hSb, hFb, lk_old hFb, c1, c2, c3, g0, g1, g2, g3, gi, q1, q2, q3]
    refine Thn_n ?_
    refine hK _ _ ?_
    clear hK K
    refine AW.cond_f rfl ?_
    refine AW.exit ?_
    refine Thn_e ?_
    clear hK K
    refine Thn_e ?_
    clear hK K
    refine InB_here ?_
    refine Thn_n ?_
    refine hK _ _ ?_
    clear hK K
    refine AW.region (by decide) ?_
    simp only [push_cast, simprocAttr, dl_len, il_len, hLb, lk_old hLb, hBb, lk_old hBb, hDb, lk_old hDb, hNb, lk_old hNb, hSb, lk_old hSb, hFb, lk_old hFb, c1, c2, c3, g0, g1, g2, g3, gi, q1, q2, q3]
    refine InB_n ?_
    refine Thn_n ?_
    refine hK _ _ ?_
    clear hK K
    refine AW.region (by decide) ?_
    simp only [push_cast, simprocAttr, dl_len, il_len, hLb, lk_old hLb, hBb, lk_old hBb, hDb, lk_old hDb, hNb, lk_old hNb, hSb, lk_old hSb, hFb, lk_old hFb, c1, c2, c3, g0, g1, g2, g3, gi, q1, q2, q3]
    refine Thn_n ?_
    have hwi : IntKind.i64.wrap ((i:Int)+1) = (i:Int)+1 := wi (by omega)
    have hsn : d8 i (norG GN) ++ [.int .u8 (norI (GN i 0)), .int .u8 (norI (GN i 1)), .int .u8 (norI (GN i 2))] = d8 (i + 1) (norG GN) := rfl
    unfold norI at hsn
    refine ⟨i + 1, by omega, by omega, ?_⟩
    try simp only [keepL, setAll, push_cast, simprocAttr, dl_len, il_len, hLb, lk_old hLb, hBb, lk_old hBb, hDb, lk_old hDb, hNb, lk_old hNb, hSb, lk_old hSb, hFb, lk_old hFb, c1, c2, c3, g0, g1, g2, g3, gi, q1, q2, q3, hwi, hsn]
    exact Weak.to (extra := [_, _]) (by simp only [Keeps, Tm.get_cons, Nat.reduceEqDiff, ↓reduceIte, if_true, if_false, ite_true, ite_false, true_and, and_true, and_self, reduceCtorEq, hwi, hsn]) (by first | rfl | (simp only [List.append_assoc, List.cons_append, List.nil_append]; rfl)) (by first | rfl | (simp [AV.below, CV.below, d8_below]; done) | (simp [AV.below, CV.below, d8_below]; omega)) (by
      first | exact hwf | refine MWf.app (hwf.grow (by simp)) ?_
      repeat (first | exact MWf_nil | (refine MWf_cons ?_ ?_; · first | rfl | (simp [CV.below, d8_below]; done) | (simp [CV.below, d8_below]; omega))))
  · have hin : nN = i := by have := of_decide_eq_false h18; omega
    subst hin
    refine AW.exit ?_
    refine Thn_e ?_
    clear hK K
    refine Thn_e ?_
    refine InB_here ?_
    refine Thn_n ?_
    refine hK _ _ ?_
    clear hK K
    refine AW.seq_k fun K hK => ?_
    refine AW.region (by decide) ?_
    simp only [push_cast, simprocAttr, dl_len, il_len, hLb, lk_old hLb, hBb, lk_old hBb, hDb, lk_old hDb, hNb, lk_old hNb, hSb, lk_old hSb, hFb, lk_old hFb]
    refine Thn_n ?_
    refine hK _ _ ?_
    clear hK K
    refine AW.ret ?_
    refine hQ _ _ _ ?_
    refine RetP.pick [(m.length + 3, nN)] (Or.inr rfl) ?_ ?_ ?_ hwf ?_
    · simp only [resA, resOne, resTv, AV.tv, push_cast, simprocAttr]
      simp [renV, renT, renL, renC, renIdx, hlt0]
    · simp only [picks, push_cast, simprocAttr]
    · simp [distinctFrom]
    · exact MWf_one (d8_below _ _ _)
    
end Go.Proofs.YtbigijnadkeecaaDoor

set_option linter.unusedSimpArgs false
set_option linter.unusedVariables false
set_option maxRecDepth 100000
set_option maxHeartbeats 4000000
namespace Go.Proofs.YtbigijnadkeecaaDoor
open Go Go.Eng

theorem from_c (W H : Int) (r v n : Nat) (m : AMem) (hr : r < m.length) : Ctr Tryd.prog 15 [.agg [.int .i64 W, .int .i64 H, .sl r v 0 n]] m (.agg [.int .i64 W, .int .i64 H, .sl r v 0 n]) m := by
  refine Ctr.enter Tryd.func15 rfl (by decide) (rs := [.cell 2 52]) (nt := 12) rfl rfl fun hwf Q hQ => ?_
  iterate 2
    refine AW.seq_k fun K hK => ?_
    refine AW.region (by decide) ?_
    simp only [push_cast, simprocAttr]
    refine Thn_n ?_
    refine hK _ _ ?_
    clear hK K
  refine AW.ret ?_
  refine hQ _ _ _ ?_
  refine RetP.drop (Or.inr rfl) ?_ ?_ hwf
  · simp only [resA, resOne, resTv, AV.tv, push_cast, simprocAttr]
  · simp [AV.below, CV.below, hr]
def lightB (a b c d : Nat) : Bool := decide ((a : Int) ≤ 5000) && decide ((b : Int) ≤ 5000) && decide ((c : Int) ≤ 5000) && decide ((d : Int) ≤ 5000)
theorem light_c (W H : Int) (rL nL rD nD rN nN rB nB rS nS rF nF : Nat) (m : AMem) : Ctr Tryd.prog 6 [.agg [.int .i64 W, .int .i64 H, .sl rL 0 0 nL, .sl rD 0 0 nD, .sl rN 0 0 nN, .sl rB 0 0 nB, .sl rS 0 0 nS, .sl rF 0 0 nF]] m (.one (.bool (lightB nL nS nD nN))) m := by
  refine Ctr.enter Tryd.func6 rfl (by decide) (rs := [.tmp 2]) (nt := 26) rfl rfl fun hwf Q hQ => ?_
  rcases chain4 ((nL : Int) ≤ 5000) ((nS : Int) ≤ 5000) ((nD : Int) ≤ 5000) ((nN : Int) ≤ 5000) with ⟨h1, h2, h3, h4⟩ | ⟨h1, h2, h3, h4⟩ | ⟨h1, h2, h3, h4⟩ | ⟨h1, h2, h3, h4⟩ | ⟨h1, h2, h3, h4⟩ <;>
  (
  iterate 2
    refine AW.seq_k fun K hK => ?_
    refine AW.region (by decide) ?_
    simp only [push_cast, simprocAttr, h1, h2, h3, h4]
    refine Thn_n ?_
    refine hK _ _ ?_
    clear hK K
  refine AW.ret ?_
  refine hQ _ _ _ ?_
  first | refine RetP.drop0 (Or.inr rfl) ?_ ?_ hwf | refine RetP.drop (Or.inr rfl) ?_ ?_ hwf
  · simp only [resA, resOne, resTv, AV.tv, push_cast, simprocAttr, h1, h2, h3, h4, lightB]
  · rfl
  )
theorem same_c (W H : Int) (r1 v1 r2 v2 n : Nat) (G : Nat → Nat → Int) (m : AMem) (hp : ∃ k ez, m[r1]? = some ⟨k, 69, v1, ez, d8 n G⟩) (hq : ∃ k ez, m[r2]? = some ⟨k, 69, v2, ez, d8 n G⟩) (hn : n ≤ 1048576) : Ctr Tryd.prog 14 [.agg [.int .i64 W, .int .i64 H, .sl r1 v1 0 n], .agg [.int .i64 W, .int .i64 H, .sl r2 v2 0 n]] m (.one (.bool true)) m := by
  refine Ctr.enter Tryd.func14 rfl (by decide) (rs := [.tmp 4]) (nt := 45) rfl rfl fun hwf Q hQ => ?_
  obtain ⟨k1, e1, hb1⟩ := hp
  obtain ⟨k2, e2, hb2⟩ := hq
  have l1 := get_lt hb1
  have l2 := get_lt hb2
  refine AW.seq_k fun K hK => ?_
  refine AW.region (by decide) ?_
  simp only [push_cast, simprocAttr, hb1, lk_old hb1, hb2, lk_old hb2, d8_len, bne_self_eq_false, beq_self_eq_true, Bool.and_self]
  refine Thn_n ?_
  refine hK _ _ ?_
  clear hK K
  refine AW.seq_k fun K hK => ?_
  refine AW.seq_k fun K hK => ?_
  refine AW.region (by decide) ?_
  simp only [push_cast, simprocAttr, hb1, lk_old hb1, hb2, lk_old hb2, d8_len, bne_self_eq_false, beq_self_eq_true, Bool.and_self]
  refine Thn_n ?_
  refine hK _ _ ?_
  clear hK K
  refine AW.cond_f rfl ?_
  refine AW.skip ?_
  refine Thn_n ?_
  refine hK _ _ ?_
  clear hK K
  refine AW.seq_k fun K hK => ?_
  refine AW.seq_k fun K hK => ?_
  refine AW.region (by decide) ?_
  simp only [push_cast, simprocAttr, hb1, lk_old hb1, hb2, lk_old hb2, d8_len, bne_self_eq_false, beq_self_eq_true, Bool.and_self]
  refine Thn_n ?_
  refine hK _ _ ?_
  clear hK K
  refine AW.block ?_
  refine AW.loopK [2, 3] (fun i => i ≤ n) (fun i => [(5, .one (.int .i64 (i : Int)))]) (fun i => []) (fun i => n - i) 0 (by omega) ?_ ?_ fun i hi6 => ?_
  · first | rfl | (simp only [Keeps, Tm.get_cons, Nat.reduceEqDiff, ↓reduceIte, if_true, if_false, ite_true, ite_false, true_and, and_true, and_self, reduceCtorEq, Int.natCast_zero] <;> rfl)
  · first | rfl | (simp only [setAll, push_cast, simprocAttr, hb1, lk_old hb1, hb2, lk_old hb2, d8_len, bne_self_eq_false, beq_self_eq_true, Bool.and_self, Int.natCast_zero] <;> rfl)
  try simp only [keepL, setAll, push_cast, simprocAttr, hb1, lk_old hb1, hb2, lk_old hb2, d8_len, bne_self_eq_false, beq_self_eq_true, Bool.and_self]
  refine AW.seq_k fun K hK => ?_
  refine AW.seq_k fun K hK => ?_
  refine AW.region (by decide) ?_
  simp only [push_cast, simprocAttr, hb1, lk_old hb1, hb2, lk_old hb2, d8_len, bne_self_eq_false, beq_self_eq_true, Bool.and_self]
  refine Thn_n ?_
  refine hK _ _ ?_
  clear hK K
  refine AW.cond rfl (fun h31 => ?_) (fun h31 => ?_)
  · have hlt : i < n := by have := of_decide_eq_true h31; omega
    have c1 : (0 : Int) ≤ (i : Int) := by omega
    have c2 : (i : Int) < (n : Int) := by omega
    have c3 : i * 3 + 3 ≤ n * 3 := by omega
    have g0 := d8_get0 (G := G) hlt
    have g1 := d8_get1 (G := G) hlt
    have g2 := d8_get2 (G := G) hlt
    have g3 := d8_at (G := G) hlt
    refine AW.skip ?_
    refine Thn_n ?_
    refine hK _ _ ?_
    clear hK K
    refine AW.seq_k fun K hK => ?_
    refine AW.block ?_
    refine AW.seq_k fun K hK => ?_
    refine AW.draw [.val, .rd 0, .val, .val, .rd 0, .val, .rd 0, .val, .val, .rd 0, .val] fol (by decide) (by kernel_rfl) ?_
    simp only [push_cast, simprocAttr, hb1, lk_old hb1, hb2, lk_old hb2, d8_len, bne_self_eq_false, beq_self_eq_true, Bool.and_self, c1, c2, c3, g0, g1, g2, g3]
    refine Thn_n ?_
    refine hK _ _ ?_
    clear hK K
    refine AW.cond_f rfl ?_
    refine AW.skip ?_
    refine InB_n ?_
    refine Thn_n ?_
    refine hK _ _ ?_
    clear hK K
    refine AW.region (by decide) ?_
    simp only [push_cast, simprocAttr, hb1, lk_old hb1, hb2, lk_old hb2, d8_len, bne_self_eq_false, beq_self_eq_true, Bool.and_self, c1, c2, c3, g0, g1, g2, g3]
    refine Thn_n ?_
    have hwi : IntKind.i64.wrap ((i:Int)+1) = (i:Int)+1 := wi (by omega)
    refine ⟨i + 1, by omega, by omega, ?_⟩
    try simp only [keepL, setAll, push_cast, simprocAttr, hb1, lk_old hb1, hb2, lk_old hb2, d8_len, bne_self_eq_false, beq_self_eq_true, Bool.and_self, c1, c2, c3, g0, g1, g2, g3, hwi]
    exact Weak.same (by simp only [Keeps, Tm.get_cons, Nat.reduceEqDiff, ↓reduceIte, if_true, if_false, ite_true, ite_false, true_and, and_true, and_self, reduceCtorEq, hwi]) (by first | rfl | simp only [Keeps, Tm.get_cons, Nat.reduceEqDiff, ↓reduceIte, if_true, if_false, ite_true, ite_false, true_and, and_true, and_self, reduceCtorEq, hwi])
  · have hin : n = i := by have := of_decide_eq_false h31; omega
    subst hin
    refine AW.exit ?_
    refine Thn_e ?_
    clear hK K
    refine Thn_e ?_
    refine InB_here ?_
    refine Thn_n ?_
    refine hK _ _ ?_
    clear hK K
    refine AW.seq_k fun K hK => ?_
    refine AW.region (by decide) ?_
    simp only [push_cast, simprocAttr, hb1, lk_old hb1, hb2, lk_old hb2, d8_len, bne_self_eq_false, beq_self_eq_true, Bool.and_self]
    refine Thn_n ?_
    refine hK _ _ ?_
    clear hK K
    refine AW.ret ?_
    refine hQ _ _ _ ?_
    first | refine RetP.drop0 (Or.inr rfl) ?_ ?_ hwf | refine RetP.drop (Or.inr rfl) ?_ ?_ hwf
    · simp only [resA, resOne, resTv, AV.tv, push_cast, simprocAttr, hb1, lk_old hb1, hb2, lk_old hb2, d8_len, bne_self_eq_false, beq_self_eq_true, Bool.and_self]
    · rfl
theorem picRight_c (W H : Int) (r v n : Nat) (m : AMem) (hz : szR W H = true) : Ctr Tryd.prog 17 [.agg [.int .i64 W, .int .i64 H, .sl r v 0 n]] m (.one (.bool (shR W H n))) m := by
  refine Ctr.enter Tryd.func17 rfl (by decide) (rs := [.tmp 2]) (nt := 15) rfl rfl fun hwf Q hQ => ?_
  refine AW.seq_k fun K hK => ?_
  refine AW.region (by decide) ?_
  simp only [push_cast, simprocAttr, hz]
  refine Thn_n ?_
  refine hK _ _ ?_
  clear hK K
  refine AW.seq_k fun K hK => ?_
  refine AW.draw [.val, .rd 0, .ext, .val, .val, .rd 1, .val, .val, .rd 1, .ext, .val, .val, .val] fol (by decide) (by kernel_rfl) ?_
  simp only [push_cast, simprocAttr, hz]
  refine DCall.by0 (sizeRight_c _ _ _) ?_
  simp only [push_cast, simprocAttr, hz]
  refine DCall.by0 (pixels_c _ _ _) ?_
  simp only [push_cast, simprocAttr, hz]
  refine Thn_n ?_
  refine hK _ _ ?_
  clear hK K
  refine AW.ret ?_
  refine hQ _ _ _ ?_
  first | refine RetP.drop0 (Or.inr rfl) ?_ ?_ hwf | refine RetP.drop (Or.inr rfl) ?_ ?_ hwf
  · simp only [resA, resOne, resTv, AV.tv, push_cast, simprocAttr, hz, shR]
  · rfl
end Go.Proofs.YtbigijnadkeecaaDoor

/- Contracts of Go's library off the kit's shelf, laid at this program by the kit's own command. -/
namespace Go.Proofs
open Go.Shelf
def Tryd.lays172_ren : Go.Shelf.Ren := ⟨fun | 172 => 66 | 244 => 72 | 245 => 73 | 247 => 75 | 279 => 76 | 280 => 77 | 281 => 78 | 282 => 79 | 287 => 84 | 316 => 85 | 171 => 62 | 205 => 86 | 321 => 92 | 322 => 93 | 243 => 69 | 246 => 74 | 283 => 80 | 284 => 81 | 285 => 82 | 286 => 83 | 129 => 88 | 317 => 87 | 318 => 89 | 319 => 90 | 320 => 91 | 337 => 94 | 338 => 95 | n => n, fun | 9 => 9 | 3 => 3 | 75 => 109 | 76 => 110 | 4 => 4 | 5 => 5 | 167 => 114 | 37 => 56 | 0 => 0 | 85 => 115 | 2 => 2 | 168 => 117 | 53 => 105 | 175 => 125 | 46 => 101 | 210 => 129 | 127 => 140 | 145 => 143 | 143 => 141 | 21 => 21 | 171 => 120 | 173 => 123 | 212 => 133 | 51 => 134 | 20 => 20 | 213 => 135 | 232 => 145 | 233 => 146 | 80 => 147 | n => n, fun | 15 => 1 | 16 => 2 | 17 => 3 | 18 => 4 | 19 => 5 | n => n⟩

theorem Tryd.lays172 : Go.Proofs.Lays.n172 Tryd.prog Tryd.lays172_ren := {
  mixed := by kernel_rfl
  f129 := Tryd.func88.trans (congrArg some (by kernel_rfl))
  f171 := Tryd.func62.trans (congrArg some (by kernel_rfl))
  f172 := Tryd.func66.trans (congrArg some (by kernel_rfl))
  f205 := Tryd.func86.trans (congrArg some (by kernel_rfl))
  f243 := Tryd.func69.trans (congrArg some (by kernel_rfl))
  f244 := Tryd.func72.trans (congrArg some (by kernel_rfl))
  f245 := Tryd.func73.trans (congrArg some (by kernel_rfl))
  f246 := Tryd.func74.trans (congrArg some (by kernel_rfl))
  f247 := Tryd.func75.trans (congrArg some (by kernel_rfl))
  f279 := Tryd.func76.trans (congrArg some (by kernel_rfl))
  f280 := Tryd.func77.trans (congrArg some (by kernel_rfl))
  f281 := Tryd.func78.trans (congrArg some (by kernel_rfl))
  f282 := Tryd.func79.trans (congrArg some (by kernel_rfl))
  f283 := Tryd.func80.trans (congrArg some (by kernel_rfl))
  f284 := Tryd.func81.trans (congrArg some (by kernel_rfl))
  f285 := Tryd.func82.trans (congrArg some (by kernel_rfl))
  f286 := Tryd.func83.trans (congrArg some (by kernel_rfl))
  f287 := Tryd.func84.trans (congrArg some (by kernel_rfl))
  f316 := Tryd.func85.trans (congrArg some (by kernel_rfl))
  f317 := Tryd.func87.trans (congrArg some (by kernel_rfl))
  f318 := Tryd.func89.trans (congrArg some (by kernel_rfl))
  f319 := Tryd.func90.trans (congrArg some (by kernel_rfl))
  f320 := Tryd.func91.trans (congrArg some (by kernel_rfl))
  f321 := Tryd.func92.trans (congrArg some (by kernel_rfl))
  f322 := Tryd.func93.trans (congrArg some (by kernel_rfl))
  f337 := Tryd.func94.trans (congrArg some (by kernel_rfl))
  f338 := Tryd.func95.trans (congrArg some (by kernel_rfl))
  t0 := Tryd.underlying0
  a0 := Tryd.isAgg0
  z0 := Tryd.sizeOf0
  v0 := Tryd.zeroValue0
  t2 := Tryd.underlying2
  a2 := Tryd.isAgg2
  z2 := Tryd.sizeOf2
  v2 := Tryd.zeroValue2
  t3 := Tryd.underlying3
  a3 := Tryd.isAgg3
  z3 := Tryd.sizeOf3
  v3 := Tryd.zeroValue3
  t4 := Tryd.underlying4
  a4 := Tryd.isAgg4
  z4 := Tryd.sizeOf4
  v4 := Tryd.zeroValue4
  t5 := Tryd.underlying5
  a5 := Tryd.isAgg5
  z5 := Tryd.sizeOf5
  v5 := Tryd.zeroValue5
  t9 := Tryd.underlying9
  a9 := Tryd.isAgg9
  z9 := Tryd.sizeOf9
  v9 := Tryd.zeroValue9
  t20 := Tryd.underlying20
  a20 := Tryd.isAgg20
  z20 := Tryd.sizeOf20
  v20 := Tryd.zeroValue20
  t21 := Tryd.underlying21
  a21 := Tryd.isAgg21
  z21 := Tryd.sizeOf21
  v21 := Tryd.zeroValue21
  t37 := Tryd.underlying56
  a37 := Tryd.isAgg56
  z37 := Tryd.sizeOf56
  v37 := Tryd.zeroValue56
  t46 := Tryd.underlying101
  a46 := Tryd.isAgg101
  z46 := Tryd.sizeOf101
  v46 := Tryd.zeroValue101
  t51 := Tryd.underlying134
  a51 := Tryd.isAgg134
  z51 := Tryd.sizeOf134
  v51 := Tryd.zeroValue134
  t53 := Tryd.underlying105
  a53 := Tryd.isAgg105
  z53 := Tryd.sizeOf105
  v53 := Tryd.zeroValue105
  t75 := Tryd.underlying109
  a75 := Tryd.isAgg109
  z75 := Tryd.sizeOf109
  v75 := Tryd.zeroValue109
  t76 := Tryd.underlying110
  a76 := Tryd.isAgg110
  z76 := Tryd.sizeOf110
  v76 := Tryd.zeroValue110
  t85 := Tryd.underlying115
  a85 := Tryd.isAgg115
  z85 := Tryd.sizeOf115
  v85 := Tryd.zeroValue115
  t127 := Tryd.underlying140
  a127 := Tryd.isAgg140
  z127 := Tryd.sizeOf140
  v127 := Tryd.zeroValue140
  t143 := Tryd.underlying141
  a143 := Tryd.isAgg141
  z143 := Tryd.sizeOf141
  v143 := Tryd.zeroValue141
  t145 := Tryd.underlying143
  a145 := Tryd.isAgg143
  z145 := Tryd.sizeOf143
  v145 := Tryd.zeroValue143
  t167 := Tryd.underlying114
  a167 := Tryd.isAgg114
  z167 := Tryd.sizeOf114
  v167 := Tryd.zeroValue114
  t168 := Tryd.underlying117
  a168 := Tryd.isAgg117
  z168 := Tryd.sizeOf117
  v168 := Tryd.zeroValue117
  t171 := Tryd.underlying120
  a171 := Tryd.isAgg120
  z171 := Tryd.sizeOf120
  v171 := Tryd.zeroValue120
  t173 := Tryd.underlying123
  a173 := Tryd.isAgg123
  z173 := Tryd.sizeOf123
  v173 := Tryd.zeroValue123
  t175 := Tryd.underlying125
  a175 := Tryd.isAgg125
  z175 := Tryd.sizeOf125
  v175 := Tryd.zeroValue125
  t210 := Tryd.underlying129
  a210 := Tryd.isAgg129
  z210 := Tryd.sizeOf129
  v210 := Tryd.zeroValue129
  t212 := Tryd.underlying133
  a212 := Tryd.isAgg133
  z212 := Tryd.sizeOf133
  v212 := Tryd.zeroValue133
  t213 := Tryd.underlying135
  a213 := Tryd.isAgg135
  z213 := Tryd.sizeOf135
  t232 := Tryd.underlying145
  a232 := Tryd.isAgg145
  z232 := Tryd.sizeOf145
  v232 := Tryd.zeroValue145
  t233 := Tryd.underlying146
  a233 := Tryd.isAgg146
  z233 := Tryd.sizeOf146
  v233 := Tryd.zeroValue146
  g15 := by kernel_rfl
  g16 := by kernel_rfl
  g17 := by kernel_rfl
  g18 := by kernel_rfl
  g19 := by kernel_rfl }

open Go.RowKit in
theorem Tryd.strconv_Atoi (s : ByteArray) (n : Int) (hl : s.size ≤ 18) (h : Lib.atoi s.data.toList = some n) (w : World) :
    Calls Tryd.prog 66 #[.string s] w fun e w' => e = .returned (.tuple #[.int .i64 n, .nilIface]) ∧ ∃ t, w' = Lib.bytesWorld w 5 t := Any.strconv_Atoi Tryd.lays172 s n hl h w

def Tryd.laysM171_ren : Go.Shelf.Ren := ⟨fun | 171 => 62 | 243 => 69 | 246 => 74 | 283 => 80 | 284 => 81 | 285 => 82 | 286 => 83 | 129 => 88 | 317 => 87 | 318 => 89 | 319 => 90 | 320 => 91 | 337 => 94 | 338 => 95 | n => n, fun | 3 => 3 | 9 => 9 | 2 => 2 | 4 => 4 | 171 => 120 | 0 => 0 | 53 => 105 | 37 => 56 | 5 => 5 | 173 => 123 | 212 => 133 | 51 => 134 | 20 => 20 | 213 => 135 | 46 => 101 | 232 => 145 | 233 => 146 | n => n, fun | 17 => 3 | 18 => 4 | 19 => 5 | n => n⟩

theorem Tryd.laysM171 : Go.Proofs.LaysM.n171 Tryd.prog Tryd.laysM171_ren := {
  mixed := by kernel_rfl
  f129 := Tryd.func88.trans (congrArg some (by kernel_rfl))
  f171 := Tryd.func62.trans (congrArg some (by kernel_rfl))
  f243 := Tryd.func69.trans (congrArg some (by kernel_rfl))
  f246 := Tryd.func74.trans (congrArg some (by kernel_rfl))
  f283 := Tryd.func80.trans (congrArg some (by kernel_rfl))
  f284 := Tryd.func81.trans (congrArg some (by kernel_rfl))
  f285 := Tryd.func82.trans (congrArg some (by kernel_rfl))
  f286 := Tryd.func83.trans (congrArg some (by kernel_rfl))
  f317 := Tryd.func87.trans (congrArg some (by kernel_rfl))
  f318 := Tryd.func89.trans (congrArg some (by kernel_rfl))
  f319 := Tryd.func90.trans (congrArg some (by kernel_rfl))
  f320 := Tryd.func91.trans (congrArg some (by kernel_rfl))
  f337 := Tryd.func94.trans (congrArg some (by kernel_rfl))
  f338 := Tryd.func95.trans (congrArg some (by kernel_rfl))
  t0 := Tryd.underlying0
  a0 := Tryd.isAgg0
  z0 := Tryd.sizeOf0
  v0 := Tryd.zeroValue0
  t2 := Tryd.underlying2
  a2 := Tryd.isAgg2
  z2 := Tryd.sizeOf2
  v2 := Tryd.zeroValue2
  t3 := Tryd.underlying3
  a3 := Tryd.isAgg3
  z3 := Tryd.sizeOf3
  v3 := Tryd.zeroValue3
  t4 := Tryd.underlying4
  a4 := Tryd.isAgg4
  z4 := Tryd.sizeOf4
  v4 := Tryd.zeroValue4
  t5 := Tryd.underlying5
  a5 := Tryd.isAgg5
  z5 := Tryd.sizeOf5
  v5 := Tryd.zeroValue5
  t9 := Tryd.underlying9
  a9 := Tryd.isAgg9
  z9 := Tryd.sizeOf9
  v9 := Tryd.zeroValue9
  t20 := Tryd.underlying20
  a20 := Tryd.isAgg20
  z20 := Tryd.sizeOf20
  v20 := Tryd.zeroValue20
  t37 := Tryd.underlying56
  a37 := Tryd.isAgg56
  z37 := Tryd.sizeOf56
  v37 := Tryd.zeroValue56
  t46 := Tryd.underlying101
  a46 := Tryd.isAgg101
  z46 := Tryd.sizeOf101
  v46 := Tryd.zeroValue101
  t51 := Tryd.underlying134
  a51 := Tryd.isAgg134
  z51 := Tryd.sizeOf134
  v51 := Tryd.zeroValue134
  t53 := Tryd.underlying105
  a53 := Tryd.isAgg105
  z53 := Tryd.sizeOf105
  v53 := Tryd.zeroValue105
  t171 := Tryd.underlying120
  a171 := Tryd.isAgg120
  z171 := Tryd.sizeOf120
  v171 := Tryd.zeroValue120
  t173 := Tryd.underlying123
  a173 := Tryd.isAgg123
  z173 := Tryd.sizeOf123
  v173 := Tryd.zeroValue123
  t212 := Tryd.underlying133
  a212 := Tryd.isAgg133
  z212 := Tryd.sizeOf133
  v212 := Tryd.zeroValue133
  t213 := Tryd.underlying135
  a213 := Tryd.isAgg135
  z213 := Tryd.sizeOf135
  t232 := Tryd.underlying145
  a232 := Tryd.isAgg145
  z232 := Tryd.sizeOf145
  v232 := Tryd.zeroValue145
  t233 := Tryd.underlying146
  a233 := Tryd.isAgg146
  z233 := Tryd.sizeOf146
  v233 := Tryd.zeroValue146
  g17 := by kernel_rfl
  g18 := by kernel_rfl
  g19 := by kernel_rfl
  i0 := by kernel_rfl
  i2 := by kernel_rfl
  i3 := by kernel_rfl
  i4 := by kernel_rfl
  i5 := by kernel_rfl
  i9 := by kernel_rfl
  i20 := by kernel_rfl
  i37 := by kernel_rfl
  i46 := by kernel_rfl
  i51 := by kernel_rfl
  i53 := by kernel_rfl
  i171 := by kernel_rfl
  i173 := by kernel_rfl
  i212 := by kernel_rfl
  i232 := by kernel_rfl
  i233 := by kernel_rfl
  m17 := by kernel_rfl
  m18 := by kernel_rfl
  m19 := by kernel_rfl }

open Go.RowKit Go.Sort Go.Lib in
theorem Tryd.strconv_Itoa (n : Int) (h0 : -9223372036854775808 ≤ n) (h1 : n ≤ 9223372036854775807) (w : World) (htab : Lib.TabIs Tryd.prog w "internal/strconv.uint64pow10" .u64 Lib.pow10Tab) :
    Calls Tryd.prog 62 #[.int .i64 n] w fun e w' => e = .returned (.string ⟨(Lib.itoa n).toArray⟩) ∧ ∃ k os, w' = grow (w.drewN k) os := Any.strconv_Itoa Tryd.laysM171 n h0 h1 w htab

def Tryd.lays171_ren : Go.Shelf.Ren := ⟨fun | 171 => 62 | 243 => 69 | 246 => 74 | 283 => 80 | 284 => 81 | 285 => 82 | 286 => 83 | 129 => 88 | 317 => 87 | 318 => 89 | 319 => 90 | 320 => 91 | 337 => 94 | 338 => 95 | n => n, fun | 3 => 3 | 9 => 9 | 2 => 2 | 4 => 4 | 171 => 120 | 0 => 0 | 53 => 105 | 37 => 56 | 5 => 5 | 173 => 123 | 212 => 133 | 51 => 134 | 20 => 20 | 213 => 135 | 46 => 101 | 232 => 145 | 233 => 146 | n => n, fun | 17 => 3 | 18 => 4 | 19 => 5 | n => n⟩

theorem Tryd.lays171 : Go.Proofs.Lays.n171 Tryd.prog Tryd.lays171_ren := {
  mixed := by kernel_rfl
  f129 := Tryd.func88.trans (congrArg some (by kernel_rfl))
  f171 := Tryd.func62.trans (congrArg some (by kernel_rfl))
  f243 := Tryd.func69.trans (congrArg some (by kernel_rfl))
  f246 := Tryd.func74.trans (congrArg some (by kernel_rfl))
  f283 := Tryd.func80.trans (congrArg some (by kernel_rfl))
  f284 := Tryd.func81.trans (congrArg some (by kernel_rfl))
  f285 := Tryd.func82.trans (congrArg some (by kernel_rfl))
  f286 := Tryd.func83.trans (congrArg some (by kernel_rfl))
  f317 := Tryd.func87.trans (congrArg some (by kernel_rfl))
  f318 := Tryd.func89.trans (congrArg some (by kernel_rfl))
  f319 := Tryd.func90.trans (congrArg some (by kernel_rfl))
  f320 := Tryd.func91.trans (congrArg some (by kernel_rfl))
  f337 := Tryd.func94.trans (congrArg some (by kernel_rfl))
  f338 := Tryd.func95.trans (congrArg some (by kernel_rfl))
  t0 := Tryd.underlying0
  a0 := Tryd.isAgg0
  z0 := Tryd.sizeOf0
  v0 := Tryd.zeroValue0
  t2 := Tryd.underlying2
  a2 := Tryd.isAgg2
  z2 := Tryd.sizeOf2
  v2 := Tryd.zeroValue2
  t3 := Tryd.underlying3
  a3 := Tryd.isAgg3
  z3 := Tryd.sizeOf3
  v3 := Tryd.zeroValue3
  t4 := Tryd.underlying4
  a4 := Tryd.isAgg4
  z4 := Tryd.sizeOf4
  v4 := Tryd.zeroValue4
  t5 := Tryd.underlying5
  a5 := Tryd.isAgg5
  z5 := Tryd.sizeOf5
  v5 := Tryd.zeroValue5
  t9 := Tryd.underlying9
  a9 := Tryd.isAgg9
  z9 := Tryd.sizeOf9
  v9 := Tryd.zeroValue9
  t20 := Tryd.underlying20
  a20 := Tryd.isAgg20
  z20 := Tryd.sizeOf20
  v20 := Tryd.zeroValue20
  t37 := Tryd.underlying56
  a37 := Tryd.isAgg56
  z37 := Tryd.sizeOf56
  v37 := Tryd.zeroValue56
  t46 := Tryd.underlying101
  a46 := Tryd.isAgg101
  z46 := Tryd.sizeOf101
  v46 := Tryd.zeroValue101
  t51 := Tryd.underlying134
  a51 := Tryd.isAgg134
  z51 := Tryd.sizeOf134
  v51 := Tryd.zeroValue134
  t53 := Tryd.underlying105
  a53 := Tryd.isAgg105
  z53 := Tryd.sizeOf105
  v53 := Tryd.zeroValue105
  t171 := Tryd.underlying120
  a171 := Tryd.isAgg120
  z171 := Tryd.sizeOf120
  v171 := Tryd.zeroValue120
  t173 := Tryd.underlying123
  a173 := Tryd.isAgg123
  z173 := Tryd.sizeOf123
  v173 := Tryd.zeroValue123
  t212 := Tryd.underlying133
  a212 := Tryd.isAgg133
  z212 := Tryd.sizeOf133
  v212 := Tryd.zeroValue133
  t213 := Tryd.underlying135
  a213 := Tryd.isAgg135
  z213 := Tryd.sizeOf135
  t232 := Tryd.underlying145
  a232 := Tryd.isAgg145
  z232 := Tryd.sizeOf145
  v232 := Tryd.zeroValue145
  t233 := Tryd.underlying146
  a233 := Tryd.isAgg146
  z233 := Tryd.sizeOf146
  v233 := Tryd.zeroValue146
  g17 := by kernel_rfl
  g18 := by kernel_rfl
  g19 := by kernel_rfl }

open Go.RowKit Go.Sort Go.Lib in
theorem Tryd.strconv_Itoa_small (i : Nat) (hi : i < 100) (w : World) :
    Calls Tryd.prog 62 #[.int .i64 i] w fun e w' => e = .returned (.string ⟨(Lib.decDigits i).toArray⟩) ∧ w' = w := Any.strconv_Itoa_small Tryd.lays171 i hi w

def Tryd.laysC172_ren : Go.Shelf.Ren := ⟨fun | 172 => 66 | 244 => 72 | 245 => 73 | 247 => 75 | 279 => 76 | 280 => 77 | 281 => 78 | 282 => 79 | 287 => 84 | 316 => 85 | 171 => 62 | 205 => 86 | 321 => 92 | 322 => 93 | 243 => 69 | 246 => 74 | 283 => 80 | 284 => 81 | 285 => 82 | 286 => 83 | 129 => 88 | 317 => 87 | 318 => 89 | 319 => 90 | 320 => 91 | 337 => 94 | 338 => 95 | n => n, fun | 9 => 9 | 3 => 3 | 75 => 109 | 76 => 110 | 4 => 4 | 5 => 5 | 167 => 114 | 37 => 56 | 0 => 0 | 85 => 115 | 2 => 2 | 168 => 117 | 53 => 105 | 175 => 125 | 46 => 101 | 210 => 129 | 127 => 140 | 145 => 143 | 143 => 141 | 21 => 21 | 171 => 120 | 173 => 123 | 212 => 133 | 51 => 134 | 20 => 20 | 213 => 135 | 232 => 145 | 233 => 146 | 80 => 147 | n => n, fun | 15 => 1 | 16 => 2 | 17 => 3 | 18 => 4 | 19 => 5 | n => n⟩

theorem Tryd.laysC172 : Go.Proofs.LaysC.n172 Tryd.prog Tryd.laysC172_ren := {
  mixed := by kernel_rfl
  f129 := Tryd.func88.trans (congrArg some (by kernel_rfl))
  f171 := Tryd.func62.trans (congrArg some (by kernel_rfl))
  f172 := Tryd.func66.trans (congrArg some (by kernel_rfl))
  f205 := Tryd.func86.trans (congrArg some (by kernel_rfl))
  f243 := Tryd.func69.trans (congrArg some (by kernel_rfl))
  f244 := Tryd.func72.trans (congrArg some (by kernel_rfl))
  f245 := Tryd.func73.trans (congrArg some (by kernel_rfl))
  f246 := Tryd.func74.trans (congrArg some (by kernel_rfl))
  f247 := Tryd.func75.trans (congrArg some (by kernel_rfl))
  f279 := Tryd.func76.trans (congrArg some (by kernel_rfl))
  f280 := Tryd.func77.trans (congrArg some (by kernel_rfl))
  f281 := Tryd.func78.trans (congrArg some (by kernel_rfl))
  f282 := Tryd.func79.trans (congrArg some (by kernel_rfl))
  f283 := Tryd.func80.trans (congrArg some (by kernel_rfl))
  f284 := Tryd.func81.trans (congrArg some (by kernel_rfl))
  f285 := Tryd.func82.trans (congrArg some (by kernel_rfl))
  f286 := Tryd.func83.trans (congrArg some (by kernel_rfl))
  f287 := Tryd.func84.trans (congrArg some (by kernel_rfl))
  f316 := Tryd.func85.trans (congrArg some (by kernel_rfl))
  f317 := Tryd.func87.trans (congrArg some (by kernel_rfl))
  f318 := Tryd.func89.trans (congrArg some (by kernel_rfl))
  f319 := Tryd.func90.trans (congrArg some (by kernel_rfl))
  f320 := Tryd.func91.trans (congrArg some (by kernel_rfl))
  f321 := Tryd.func92.trans (congrArg some (by kernel_rfl))
  f322 := Tryd.func93.trans (congrArg some (by kernel_rfl))
  f337 := Tryd.func94.trans (congrArg some (by kernel_rfl))
  f338 := Tryd.func95.trans (congrArg some (by kernel_rfl))
  t0 := Tryd.underlying0
  a0 := Tryd.isAgg0
  z0 := Tryd.sizeOf0
  v0 := Tryd.zeroValue0
  t2 := Tryd.underlying2
  a2 := Tryd.isAgg2
  z2 := Tryd.sizeOf2
  v2 := Tryd.zeroValue2
  t3 := Tryd.underlying3
  a3 := Tryd.isAgg3
  z3 := Tryd.sizeOf3
  v3 := Tryd.zeroValue3
  t4 := Tryd.underlying4
  a4 := Tryd.isAgg4
  z4 := Tryd.sizeOf4
  v4 := Tryd.zeroValue4
  t5 := Tryd.underlying5
  a5 := Tryd.isAgg5
  z5 := Tryd.sizeOf5
  v5 := Tryd.zeroValue5
  t9 := Tryd.underlying9
  a9 := Tryd.isAgg9
  z9 := Tryd.sizeOf9
  v9 := Tryd.zeroValue9
  t20 := Tryd.underlying20
  a20 := Tryd.isAgg20
  z20 := Tryd.sizeOf20
  v20 := Tryd.zeroValue20
  t21 := Tryd.underlying21
  a21 := Tryd.isAgg21
  z21 := Tryd.sizeOf21
  v21 := Tryd.zeroValue21
  t37 := Tryd.underlying56
  a37 := Tryd.isAgg56
  z37 := Tryd.sizeOf56
  v37 := Tryd.zeroValue56
  t46 := Tryd.underlying101
  a46 := Tryd.isAgg101
  z46 := Tryd.sizeOf101
  v46 := Tryd.zeroValue101
  t51 := Tryd.underlying134
  a51 := Tryd.isAgg134
  z51 := Tryd.sizeOf134
  v51 := Tryd.zeroValue134
  t53 := Tryd.underlying105
  a53 := Tryd.isAgg105
  z53 := Tryd.sizeOf105
  v53 := Tryd.zeroValue105
  t75 := Tryd.underlying109
  a75 := Tryd.isAgg109
  z75 := Tryd.sizeOf109
  v75 := Tryd.zeroValue109
  t76 := Tryd.underlying110
  a76 := Tryd.isAgg110
  z76 := Tryd.sizeOf110
  v76 := Tryd.zeroValue110
  t85 := Tryd.underlying115
  a85 := Tryd.isAgg115
  z85 := Tryd.sizeOf115
  v85 := Tryd.zeroValue115
  t127 := Tryd.underlying140
  a127 := Tryd.isAgg140
  z127 := Tryd.sizeOf140
  v127 := Tryd.zeroValue140
  t143 := Tryd.underlying141
  a143 := Tryd.isAgg141
  z143 := Tryd.sizeOf141
  v143 := Tryd.zeroValue141
  t145 := Tryd.underlying143
  a145 := Tryd.isAgg143
  z145 := Tryd.sizeOf143
  v145 := Tryd.zeroValue143
  t167 := Tryd.underlying114
  a167 := Tryd.isAgg114
  z167 := Tryd.sizeOf114
  v167 := Tryd.zeroValue114
  t168 := Tryd.underlying117
  a168 := Tryd.isAgg117
  z168 := Tryd.sizeOf117
  v168 := Tryd.zeroValue117
  t171 := Tryd.underlying120
  a171 := Tryd.isAgg120
  z171 := Tryd.sizeOf120
  v171 := Tryd.zeroValue120
  t173 := Tryd.underlying123
  a173 := Tryd.isAgg123
  z173 := Tryd.sizeOf123
  v173 := Tryd.zeroValue123
  t175 := Tryd.underlying125
  a175 := Tryd.isAgg125
  z175 := Tryd.sizeOf125
  v175 := Tryd.zeroValue125
  t210 := Tryd.underlying129
  a210 := Tryd.isAgg129
  z210 := Tryd.sizeOf129
  v210 := Tryd.zeroValue129
  t212 := Tryd.underlying133
  a212 := Tryd.isAgg133
  z212 := Tryd.sizeOf133
  v212 := Tryd.zeroValue133
  t213 := Tryd.underlying135
  a213 := Tryd.isAgg135
  z213 := Tryd.sizeOf135
  t232 := Tryd.underlying145
  a232 := Tryd.isAgg145
  z232 := Tryd.sizeOf145
  v232 := Tryd.zeroValue145
  t233 := Tryd.underlying146
  a233 := Tryd.isAgg146
  z233 := Tryd.sizeOf146
  v233 := Tryd.zeroValue146
  g15 := by kernel_rfl
  g16 := by kernel_rfl
  g17 := by kernel_rfl
  g18 := by kernel_rfl
  g19 := by kernel_rfl
  t80 := Tryd.underlying147
  a80 := Tryd.isAgg147
  z80 := Tryd.sizeOf147
  v80 := Tryd.zeroValue147
  i0 := by kernel_rfl
  i2 := by kernel_rfl
  i3 := by kernel_rfl
  i4 := by kernel_rfl
  i5 := by kernel_rfl
  i9 := by kernel_rfl
  i20 := by kernel_rfl
  i21 := by kernel_rfl
  i37 := by kernel_rfl
  i46 := by kernel_rfl
  i51 := by kernel_rfl
  i53 := by kernel_rfl
  i75 := by kernel_rfl
  i76 := by kernel_rfl
  i80 := by kernel_rfl
  i85 := by kernel_rfl
  i127 := by kernel_rfl
  i143 := by kernel_rfl
  i145 := by kernel_rfl
  i167 := by kernel_rfl
  i168 := by kernel_rfl
  i171 := by kernel_rfl
  i173 := by kernel_rfl
  i175 := by kernel_rfl
  i210 := by kernel_rfl
  i212 := by kernel_rfl
  i232 := by kernel_rfl
  i233 := by kernel_rfl
  m15 := by kernel_rfl
  m16 := by kernel_rfl
  m17 := by kernel_rfl
  m18 := by kernel_rfl
  m19 := by kernel_rfl
  c0 := by kernel_rfl
  c2 := by kernel_rfl
  c3 := by kernel_rfl
  c4 := by kernel_rfl
  c5 := by kernel_rfl
  c9 := by kernel_rfl
  c20 := by kernel_rfl
  c21 := by kernel_rfl
  c37 := by kernel_rfl
  c46 := by kernel_rfl
  c51 := by kernel_rfl
  c53 := by kernel_rfl
  c75 := by kernel_rfl
  c76 := by kernel_rfl
  c80 := by kernel_rfl
  c85 := by kernel_rfl
  c127 := by kernel_rfl
  c143 := by kernel_rfl
  c145 := by kernel_rfl
  c167 := by kernel_rfl
  c168 := by kernel_rfl
  c171 := by kernel_rfl
  c173 := by kernel_rfl
  c175 := by kernel_rfl
  c210 := by kernel_rfl
  c212 := by kernel_rfl
  c213 := by kernel_rfl
  c232 := by kernel_rfl
  c233 := by kernel_rfl }

open Go.RowKit in
theorem Tryd.strconv_Atoi_err (s : ByteArray) (hl : s.size ≤ 18) (h : Lib.atoi s.data.toList = none) (ev : Value) (w : World) (hv : w.cell? ⟨1, 0, none⟩ = some ev) (hev : ev = .nilIface ∨ ∃ te pe, ev = .iface te pe) :
    Calls Tryd.prog 66 #[.string s] w fun e w' => ∃ N, e = .returned (.tuple #[.int .i64 0, .iface 117 (.pointer (some ⟨N, 0, none⟩))]) ∧ w.heap.size ≤ N ∧ w'.heap[N]? = some (.cells #[.string ⟨#[65, 116, 111, 105]⟩, .string s, ev] 129 (0, 0)) ∧ Below w.heap.size w w' := Any.strconv_Atoi_err Tryd.laysC172 s hl h ev w hv hev

end Go.Proofs

/-
  ENGINE, PART W: what a row of our own holds is handed on to another one (which bears a new version then); results beside a memory that was written.
-/
set_option linter.unusedVariables false
namespace Go.Eng
open Go
variable {P : Program} {nt : Nat} {tm : Tm} {mem : AMem}
theorem RetP.dropM {m1 : AMem} {L : Nat} {rs : List ResultVar} {ret : AV} {extra : AMem} {ex : Exit} (hl : m1.length = L) (hex : ex = .normal ∨ ex = .ret) (hres : resA P rs tm (m1 ++ extra) = some ret) (hb : ret.below L = true) (hw : MWf L m1) :
    RetP P rs L ret m1 ex tm (m1 ++ extra) := by
  subst hl; exact RetP.drop hex hres hb hw
theorem RetP.dropM0 {m1 : AMem} {L : Nat} {rs : List ResultVar} {ret : AV} {ex : Exit} (hl : m1.length = L) (hex : ex = .normal ∨ ex = .ret) (hres : resA P rs tm m1 = some ret) (hb : ret.below L = true) (hw : MWf L m1) :
    RetP P rs L ret m1 ex tm m1 := by
  subst hl; exact RetP.drop0 hex hres hb hw
theorem AW.moveP {c : Code} {Q : Exit → Tm → AMem → Prop} (old new d n : Nat) {b e : Blk} (hb : mem[old]? = some b) (hbk : b.kind = .grow) (he : mem[new]? = some e) (hek : e.kind = .grow) (hne : old ≠ new) (hd : Tm.get tm d = .one (.sl new e.ver 0 n))
    (h : ∀ ρ2 a w, ρ2 old (b.ver + 1) = ρ2 new e.ver → Rep ρ2 nt ((d, .one (.sl old (b.ver + 1) 0 n)) :: tm) ((mem.set old ⟨.grow, e.ty, b.ver + 1, e.esz, e.cells⟩).set new ⟨.grow, e.ty, e.ver + 1, e.esz, []⟩) a w →
      c.wp P (fun ex a' w' => ∃ ρ' tm' mem', Rep ρ' nt tm' mem' a' w' ∧ Step ((mem.set old ⟨.grow, e.ty, b.ver + 1, e.esz, e.cells⟩).set new ⟨.grow, e.ty, e.ver + 1, e.esz, []⟩) ρ2 w mem' ρ' w' ∧ a'.defers = a.defers ∧ Q ex tm' mem') a w) : AW P nt c tm mem Q := by
  intro ρ a w hr
  have hol := (List.getElem?_eq_some_iff.1 hb).1
  have hnl := (List.getElem?_eq_some_iff.1 he).1
  obtain ⟨x0, hx0⟩ : ∃ x, ρ new e.ver = some x := by
    have h1 := hr.tm d
    rw [hd] at h1
    obtain ⟨A, c0, B, cc, h2, _⟩ := h1
    exact ⟨_, h2⟩
  have hle1 : ρ.le (ρ.set old (b.ver + 1) x0) := Env.le_set (hr.mem.domv old b _ hb (by omega))
  have hle2 : (ρ.set old (b.ver + 1) x0).le ((ρ.set old (b.ver + 1) x0).set new (e.ver + 1) (none, 0)) := Env.le_set (by
    rw [Env.set_other ρ _ (fun hc => hne hc.1.symm)]; exact hr.mem.domv new e _ he (by omega))
  have hle : ρ.le ((ρ.set old (b.ver + 1) x0).set new (e.ver + 1) (none, 0)) := fun r v x hx => hle2 r v x (hle1 r v x hx)
  generalize hρ : (ρ.set old (b.ver + 1) x0).set new (e.ver + 1) (none, 0) = ρ2 at *
  have eo : ρ2 old (b.ver + 1) = some x0 := by rw [← hρ, Env.set_other _ _ (fun hc => hne hc.1), Env.set_same]
  have en : ρ2 new (e.ver + 1) = some (none, 0) := by rw [← hρ, Env.set_same]
  have eq : ∀ r v, r ≠ old → r ≠ new → ρ2 r v = ρ r v := fun r v h1 h2 => by rw [← hρ, Env.set_other _ _ (fun hc => h2 hc.1), Env.set_other _ _ (fun hc => h1 hc.1)]
  have hgt : ∀ {s : Nat} {q : Blk}, ((mem.set old ⟨.grow, e.ty, b.ver + 1, e.esz, e.cells⟩).set new ⟨.grow, e.ty, e.ver + 1, e.esz, []⟩)[s]? = some q →
      (s ≠ old ∧ s ≠ new ∧ mem[s]? = some q) ∨ (s = old ∧ q = ⟨.grow, e.ty, b.ver + 1, e.esz, e.cells⟩) ∨ (s = new ∧ q = ⟨.grow, e.ty, e.ver + 1, e.esz, []⟩) := by
    intro s q hq
    by_cases h1 : s = new
    · subst h1; rw [List.getElem?_set_self (by simpa using hnl)] at hq; injection hq with hq; exact .inr (.inr ⟨rfl, hq.symm⟩)
    · rw [List.getElem?_set_ne (fun h => h1 h.symm)] at hq
      by_cases h2 : s = old
      · subst h2; rw [List.getElem?_set_self hol] at hq; injection hq with hq; exact .inr (.inl ⟨rfl, hq.symm⟩)
      · rw [List.getElem?_set_ne (fun h => h2 h.symm)] at hq; exact .inl ⟨h2, h1, hq⟩
  have hblk : BlkR ρ2 w old ⟨.grow, e.ty, b.ver + 1, e.esz, e.cells⟩ := by
    have h1 := hr.mem.blk new e he
    obtain ⟨kind, ty, ver, esz, cells⟩ := e
    simp only at hek; subst hek
    rcases h1 with ⟨q1, q2⟩ | ⟨q, c1, cap, xs, sp, q1, q2, q3, q4, q5, q6⟩
    · refine .inl ⟨q1, ?_⟩
      rw [eo, ← hx0]; exact q2
    · refine .inr ⟨q, c1, cap, xs, sp, ?_, q2, q3, q4, q5, q6.mono fun _ _ => VC.mono hle⟩
      rw [eo, ← hx0]; exact q1
  have hsrc : ∀ {s : Nat} {q : Blk} {x : Addr} {k : Nat}, ((mem.set old ⟨.grow, e.ty, b.ver + 1, e.esz, e.cells⟩).set new ⟨.grow, e.ty, e.ver + 1, e.esz, []⟩)[s]? = some q → ρ2 s q.ver = some (some x, k) →
      ∃ s0 q0, mem[s0]? = some q0 ∧ ρ s0 q0.ver = some (some x, k) ∧ q0.kind = q.kind ∧ (s0 = s ∧ q0 = q ∨ s = old ∧ s0 = new) ∧ s ≠ new := by
    intro s q x k hq hx
    rcases hgt hq with ⟨h1, h2, h3⟩ | ⟨rfl, rfl⟩ | ⟨rfl, rfl⟩
    · rw [eq s _ h1 h2] at hx; exact ⟨s, q, h3, hx, rfl, .inl ⟨rfl, rfl⟩, h2⟩
    · simp only at hx; rw [eo, ← hx0] at hx; exact ⟨new, e, he, hx, hek, .inr ⟨rfl, rfl⟩, hne⟩
    · simp only at hx; rw [en] at hx; injection hx with hx; injection hx with hx _; cases hx
  have hm : RepM ρ2 ((mem.set old ⟨.grow, e.ty, b.ver + 1, e.esz, e.cells⟩).set new ⟨.grow, e.ty, e.ver + 1, e.esz, []⟩) w := by
    refine ⟨fun s q hq => ?_, fun s v hs => ?_, fun s q v hq hv => ?_, fun s t q u hq hu hst hqk huk x y i j hx hy => ?_⟩
    · rcases hgt hq with ⟨_, _, h3⟩ | ⟨rfl, rfl⟩ | ⟨rfl, rfl⟩
      · exact (hr.mem.blk s q h3).mono hle
      · exact hblk
      · exact .inl ⟨rfl, en⟩
    · simp only [List.length_set] at hs
      rw [eq s v (by omega) (by omega)]; exact hr.mem.dom s v hs
    · rcases hgt hq with ⟨h1, h2, h3⟩ | ⟨rfl, rfl⟩ | ⟨rfl, rfl⟩
      · rw [eq s v h1 h2]; exact hr.mem.domv s q v h3 hv
      · simp only at hv
        rw [← hρ, Env.set_other _ _ (fun hc => hne hc.1), Env.set_other _ _ (fun hc => by omega)]
        exact hr.mem.domv _ b v hb (by omega)
      · simp only at hv
        rw [← hρ, Env.set_other _ _ (fun hc => by omega), Env.set_other _ _ (fun hc => hne hc.1.symm)]
        exact hr.mem.domv _ e v he (by omega)
    · obtain ⟨s0, q0, g1, g2, g3, g4, g5⟩ := hsrc hq hx
      obtain ⟨t0, u0, f1, f2, f3, f4, f5⟩ := hsrc hu hy
      refine hr.mem.sep s0 t0 q0 u0 g1 f1 ?_ (by rw [g3]; exact hqk) (fun hro => ?_) x y i j g2 f2
      · rcases g4 with ⟨rfl, _⟩ | ⟨rfl, rfl⟩ <;> rcases f4 with ⟨rfl, _⟩ | ⟨rfl, rfl⟩
        · exact hst
        · exact g5
        · exact fun h => f5 h.symm
        · exact absurd rfl hst
      · rcases f4 with ⟨_, rfl⟩ | ⟨_, rfl⟩
        · exact huk hro
        · rw [he] at f1; injection f1 with f1; subst f1; rw [hek] at hro; cases hro
  refine wp_mono (h ρ2 a w (by rw [eo]; exact (hle new e.ver x0 hx0).symm) ⟨hr.size, fun i => ?_, hm⟩) ?_
  · rw [Tm.get_put]
    split
    · rename_i hi
      subst hi
      have h1 := hr.tm i
      rw [hd] at h1
      obtain ⟨A, c0, B, cc, h2, h3, h4, h5, h6⟩ := h1
      exact ⟨A, c0, B, cc, by rw [eo, ← hx0]; exact h2, h3, h4, h5, h6⟩
    · exact (hr.tm i).mono hle
  · rintro ee a' w' ⟨ρ3, tm2, mem2, hr2, hs2, hdd, hq⟩
    refine ⟨ρ3, tm2, mem2, hr2, ?_, hdd, hq⟩
    refine ⟨hs2.os, hs2.tape, hs2.output, hs2.size, by have := hs2.len; simpa using this, fun s hs v x hx => hs2.ext s (by simpa using hs) v x (hle s v x hx), fun s q q' h1 h2 => ?_, fun s q' h1 h2 => ?_, fun n1 hn hn2 => ?_, fun s q' x i h1 h2 h3 => ?_⟩
    · by_cases e1 : s = new
      · subst e1
        rw [he] at h1; injection h1 with h1; subst h1
        rw [hek]; exact hs2.kind s ⟨.grow, e.ty, e.ver + 1, e.esz, []⟩ q' (List.getElem?_set_self (by simpa using hnl)) h2
      · by_cases e2 : s = old
        · subst e2
          rw [hb] at h1; injection h1 with h1; subst h1
          rw [hbk]; exact hs2.kind s ⟨.grow, e.ty, b.ver + 1, e.esz, e.cells⟩ q' (by rw [List.getElem?_set_ne (fun h => e1 h.symm)]; exact List.getElem?_set_self hol) h2
        · exact hs2.kind s q q' (by rw [List.getElem?_set_ne (fun h => e1 h.symm), List.getElem?_set_ne (fun h => e2 h.symm)]; exact h1) h2
    · have := hs2.ro s q' h1 h2
      rcases hgt this with ⟨_, _, h3⟩ | ⟨_, rfl⟩ | ⟨_, rfl⟩
      · exact h3
      · cases h2
      · cases h2
    · refine hs2.frame n1 hn fun s q x i h1 h2 h3 => ?_
      obtain ⟨s0, q0, g1, g2, g3, _, _⟩ := hsrc h1 h3
      exact hn2 s0 q0 x i g1 (by rw [g3]; exact h2) g2
    · rcases hs2.fresh s q' x i h1 h2 h3 with h | ⟨t, q, y, l, g1, g2, g3, g4⟩
      · exact .inl h
      · obtain ⟨s0, q0, f1, f2, f3, _, _⟩ := hsrc g1 g3
        exact .inr ⟨s0, q0, y, l, f1, by rw [f3]; exact g2, f2, g4⟩
theorem AW.move {c : Code} {Q : Exit → Tm → AMem → Prop} (old new d n : Nat) {b e : Blk} (hb : mem[old]? = some b) (hbk : b.kind = .grow) (he : mem[new]? = some e) (hek : e.kind = .grow) (hne : old ≠ new) (hd : Tm.get tm d = .one (.sl new e.ver 0 n))
    (h : AW P nt c ((d, .one (.sl old (b.ver + 1) 0 n)) :: tm) ((mem.set old ⟨.grow, e.ty, b.ver + 1, e.esz, e.cells⟩).set new ⟨.grow, e.ty, e.ver + 1, e.esz, []⟩) Q) : AW P nt c tm mem Q :=
  AW.moveP old new d n hb hbk he hek hne hd fun ρ2 a w _ hr => h ρ2 a w hr
theorem BlkR.recell {ρ : Env} {w : World} {r : Nat} {b : Blk} (hb : BlkR ρ w r b) (hk : b.kind ≠ .ro) {j : Nat} {c0 c : CV} (hj : b.cells[j]? = some c0) (hc : ∀ v, VC ρ c0 v → VC ρ c v) : BlkR ρ w r { b with cells := b.cells.set j c } := by
  obtain ⟨kind, ty, ver, esz, cells⟩ := b
  cases kind with
  | fix =>
    obtain ⟨n, cs, k, h1, h2, h3, hkk⟩ := hb
    obtain ⟨v, hv, hr⟩ := h3.get hj
    exact ⟨n, cs, k, h1, h2, h3.set_left hv (hc v hr), hkk⟩
  | grow =>
    rcases hb with ⟨h1, h2⟩ | ⟨n, cs, cap, xs, sp, h1, h2, h3, hcm, h4, h5⟩
    · simp only at h1; subst h1; simp at hj
    · obtain ⟨v, hv, hr⟩ := h5.get hj
      exact .inr ⟨n, cs, cap, xs, sp, h1, h2, h3, hcm, h4, h5.set_left hv (hc v hr)⟩
  | ro => exact absurd rfl hk
  | map ka va clock es => obtain ⟨n, o, k, _, _, _, h⟩ := hb; simp only at h; subst h; simp at hj
  | iter rm since seen last => obtain ⟨n, N, k, k', _, _, _, h⟩ := hb; simp only at h; subst h; simp at hj
theorem RepM.recell {ρ : Env} {w : World} (h : RepM ρ mem w) {r j : Nat} {b : Blk} {c0 c : CV} (hb : mem[r]? = some b) (hk : b.kind ≠ .ro) (hj : b.cells[j]? = some c0) (hc : ∀ v, VC ρ c0 v → VC ρ c v) :
    RepM ρ (mem.set r { b with cells := b.cells.set j c }) w ∧ Step mem ρ w (mem.set r { b with cells := b.cells.set j c }) ρ w := by
  have hrl := (List.getElem?_eq_some_iff.1 hb).1
  have hold : ∀ {s : Nat} {d : Blk}, (mem.set r { b with cells := b.cells.set j c })[s]? = some d → ∃ d0, mem[s]? = some d0 ∧ d0.kind = d.kind ∧ d0.ver = d.ver ∧ (d.kind = .ro → d0 = d) ∧ BlkR ρ w s d := by
    intro s d hd
    by_cases hs : s = r
    · subst hs; rw [List.getElem?_set_self hrl] at hd; injection hd with hd; subst hd
      exact ⟨b, hb, rfl, rfl, fun h => absurd h hk, (h.blk s b hb).recell hk hj hc⟩
    · rw [List.getElem?_set_ne (fun e => hs e.symm)] at hd
      exact ⟨d, hd, rfl, rfl, fun _ => rfl, h.blk s d hd⟩
  refine ⟨⟨fun s d hd => ?_, fun s v hs => h.dom s v (by simpa using hs), fun s d v hd hv => ?_, fun s t d e hd he hne hkd hke x y i k hx hy => ?_⟩,
    ⟨rfl, rfl, rfl, Nat.le_refl _, by simp, fun _ _ _ _ h => h, fun s d d' h1 h2 => ?_, fun s d h1 h2 => ?_, fun _ _ _ => rfl, fun s d x k h1 h2 h3 => ?_⟩⟩
  · obtain ⟨_, _, _, _, _, h5⟩ := hold hd; exact h5
  · obtain ⟨d0, h1, _, h3, _⟩ := hold hd; exact h.domv s d0 v h1 (by rw [h3]; exact hv)
  · obtain ⟨d0, h1, h2, h3, _⟩ := hold hd
    obtain ⟨e0, f1, f2, f3, f4, _⟩ := hold he
    exact h.sep s t d0 e0 h1 f1 hne (by rw [h2]; exact hkd) (fun hro => by rw [f4 (by rw [← f2]; exact hro)]; exact hke (by rw [← f2]; exact hro)) x y i k (by rw [h3]; exact hx) (by rw [f3]; exact hy)
  · obtain ⟨d0, h3, h4, _⟩ := hold h2; rw [h1] at h3; injection h3 with h3; rw [h3, h4]
  · obtain ⟨d0, h3, _, _, h5, _⟩ := hold h1; rw [← h5 h2]; exact h3
  · obtain ⟨d0, f1, f2, f3, _⟩ := hold h1; exact .inr ⟨s, d0, x, k, f1, by rw [f2]; exact h2, by rw [f3]; exact h3, rfl⟩
/-- The same where a cell of a block of our own leads to the row, too. -/
theorem AW.moveC {c : Code} {Q : Exit → Tm → AMem → Prop} (old new d n rp j : Nat) {b e p : Blk} (hb : mem[old]? = some b) (hbk : b.kind = .grow) (he : mem[new]? = some e) (hek : e.kind = .grow) (hne : old ≠ new) (hd : Tm.get tm d = .one (.sl new e.ver 0 n))
    (hp : mem[rp]? = some p) (hpk : p.kind ≠ .ro) (hpo : rp ≠ old) (hpn : rp ≠ new) (hpj : p.cells[j]? = some (.sl new e.ver 0 n))
    (h : AW P nt c ((d, .one (.sl old (b.ver + 1) 0 n)) :: tm) (((mem.set old ⟨.grow, e.ty, b.ver + 1, e.esz, e.cells⟩).set new ⟨.grow, e.ty, e.ver + 1, e.esz, []⟩).set rp { p with cells := p.cells.set j (.sl old (b.ver + 1) 0 n) }) Q) : AW P nt c tm mem Q :=
  AW.moveP old new d n hb hbk he hek hne hd fun ρ2 a w heq hr => by
    obtain ⟨g1, g2⟩ := hr.mem.recell (r := rp) (j := j) (c := .sl old (b.ver + 1) 0 n) (b := p) (by rw [List.getElem?_set_ne (fun e => hpn e.symm), List.getElem?_set_ne (fun e => hpo e.symm)]; exact hp) hpk hpj (fun v hv => by
      obtain ⟨A, c0, B, cc, h2, h3⟩ := hv
      exact ⟨A, c0, B, cc, by rw [heq]; exact h2, h3⟩)
    refine wp_mono (h ρ2 a w ⟨hr.size, hr.tm, g1⟩) ?_
    rintro ee a' w' ⟨ρ3, tm2, mem2, hr2, hs2, hdd, hq⟩
    exact ⟨ρ3, tm2, mem2, hr2, g2.trans hs2, hdd, hq⟩
theorem AW.moveQ {c : Code} {Q : Exit → Tm → AMem → Prop} (old new : Nat) {b e : Blk} (hb : mem[old]? = some b) (hbk : b.kind = .grow) (he : mem[new]? = some e) (hek : e.kind = .grow) (hne : old ≠ new)
    (h : ∀ ρ2 a w, ρ2 old (b.ver + 1) = ρ2 new e.ver → Rep ρ2 nt tm ((mem.set old ⟨.grow, e.ty, b.ver + 1, e.esz, e.cells⟩).set new ⟨.grow, e.ty, e.ver + 1, e.esz, []⟩) a w →
      c.wp P (fun ex a' w' => ∃ ρ' tm' mem', Rep ρ' nt tm' mem' a' w' ∧ Step ((mem.set old ⟨.grow, e.ty, b.ver + 1, e.esz, e.cells⟩).set new ⟨.grow, e.ty, e.ver + 1, e.esz, []⟩) ρ2 w mem' ρ' w' ∧ a'.defers = a.defers ∧ Q ex tm' mem') a w) : AW P nt c tm mem Q := by
  intro ρ a w hr
  have hol := (List.getElem?_eq_some_iff.1 hb).1
  have hnl := (List.getElem?_eq_some_iff.1 he).1
  obtain ⟨x0, hx0⟩ : ∃ x, ρ new e.ver = some x := by
    have h1 := hr.mem.blk new e he
    unfold BlkR at h1
    rw [hek] at h1
    simp only at h1
    rcases h1 with ⟨_, h2⟩ | ⟨_, _, _, _, _, h2, _⟩
    · exact ⟨_, h2⟩
    · exact ⟨_, h2⟩
  have hle1 : ρ.le (ρ.set old (b.ver + 1) x0) := Env.le_set (hr.mem.domv old b _ hb (by omega))
  have hle2 : (ρ.set old (b.ver + 1) x0).le ((ρ.set old (b.ver + 1) x0).set new (e.ver + 1) (none, 0)) := Env.le_set (by
    rw [Env.set_other ρ _ (fun hc => hne hc.1.symm)]; exact hr.mem.domv new e _ he (by omega))
  have hle : ρ.le ((ρ.set old (b.ver + 1) x0).set new (e.ver + 1) (none, 0)) := fun r v x hx => hle2 r v x (hle1 r v x hx)
  generalize hρ : (ρ.set old (b.ver + 1) x0).set new (e.ver + 1) (none, 0) = ρ2 at *
  have eo : ρ2 old (b.ver + 1) = some x0 := by rw [← hρ, Env.set_other _ _ (fun hc => hne hc.1), Env.set_same]
  have en : ρ2 new (e.ver + 1) = some (none, 0) := by rw [← hρ, Env.set_same]
  have eq : ∀ r v, r ≠ old → r ≠ new → ρ2 r v = ρ r v := fun r v h1 h2 => by rw [← hρ, Env.set_other _ _ (fun hc => h2 hc.1), Env.set_other _ _ (fun hc => h1 hc.1)]
  have hgt : ∀ {s : Nat} {q : Blk}, ((mem.set old ⟨.grow, e.ty, b.ver + 1, e.esz, e.cells⟩).set new ⟨.grow, e.ty, e.ver + 1, e.esz, []⟩)[s]? = some q →
      (s ≠ old ∧ s ≠ new ∧ mem[s]? = some q) ∨ (s = old ∧ q = ⟨.grow, e.ty, b.ver + 1, e.esz, e.cells⟩) ∨ (s = new ∧ q = ⟨.grow, e.ty, e.ver + 1, e.esz, []⟩) := by
    intro s q hq
    by_cases h1 : s = new
    · subst h1; rw [List.getElem?_set_self (by simpa using hnl)] at hq; injection hq with hq; exact .inr (.inr ⟨rfl, hq.symm⟩)
    · rw [List.getElem?_set_ne (fun h => h1 h.symm)] at hq
      by_cases h2 : s = old
      · subst h2; rw [List.getElem?_set_self hol] at hq; injection hq with hq; exact .inr (.inl ⟨rfl, hq.symm⟩)
      · rw [List.getElem?_set_ne (fun h => h2 h.symm)] at hq; exact .inl ⟨h2, h1, hq⟩
  have hblk : BlkR ρ2 w old ⟨.grow, e.ty, b.ver + 1, e.esz, e.cells⟩ := by
    have h1 := hr.mem.blk new e he
    obtain ⟨kind, ty, ver, esz, cells⟩ := e
    simp only at hek; subst hek
    rcases h1 with ⟨q1, q2⟩ | ⟨q, c1, cap, xs, sp, q1, q2, q3, q4, q5, q6⟩
    · refine .inl ⟨q1, ?_⟩
      rw [eo, ← hx0]; exact q2
    · refine .inr ⟨q, c1, cap, xs, sp, ?_, q2, q3, q4, q5, q6.mono fun _ _ => VC.mono hle⟩
      rw [eo, ← hx0]; exact q1
  have hsrc : ∀ {s : Nat} {q : Blk} {x : Addr} {k : Nat}, ((mem.set old ⟨.grow, e.ty, b.ver + 1, e.esz, e.cells⟩).set new ⟨.grow, e.ty, e.ver + 1, e.esz, []⟩)[s]? = some q → ρ2 s q.ver = some (some x, k) →
      ∃ s0 q0, mem[s0]? = some q0 ∧ ρ s0 q0.ver = some (some x, k) ∧ q0.kind = q.kind ∧ (s0 = s ∧ q0 = q ∨ s = old ∧ s0 = new) ∧ s ≠ new := by
    intro s q x k hq hx
    rcases hgt hq with ⟨h1, h2, h3⟩ | ⟨rfl, rfl⟩ | ⟨rfl, rfl⟩
    · rw [eq s _ h1 h2] at hx; exact ⟨s, q, h3, hx, rfl, .inl ⟨rfl, rfl⟩, h2⟩
    · simp only at hx; rw [eo, ← hx0] at hx; exact ⟨new, e, he, hx, hek, .inr ⟨rfl, rfl⟩, hne⟩
    · simp only at hx; rw [en] at hx; injection hx with hx; injection hx with hx _; cases hx
  have hm : RepM ρ2 ((mem.set old ⟨.grow, e.ty, b.ver + 1, e.esz, e.cells⟩).set new ⟨.grow, e.ty, e.ver + 1, e.esz, []⟩) w := by
    refine ⟨fun s q hq => ?_, fun s v hs => ?_, fun s q v hq hv => ?_, fun s t q u hq hu hst hqk huk x y i j hx hy => ?_⟩
    · rcases hgt hq with ⟨_, _, h3⟩ | ⟨rfl, rfl⟩ | ⟨rfl, rfl⟩
      · exact (hr.mem.blk s q h3).mono hle
      · exact hblk
      · exact .inl ⟨rfl, en⟩
    · simp only [List.length_set] at hs
      rw [eq s v (by omega) (by omega)]; exact hr.mem.dom s v hs
    · rcases hgt hq with ⟨h1, h2, h3⟩ | ⟨rfl, rfl⟩ | ⟨rfl, rfl⟩
      · rw [eq s v h1 h2]; exact hr.mem.domv s q v h3 hv
      · simp only at hv
        rw [← hρ, Env.set_other _ _ (fun hc => hne hc.1), Env.set_other _ _ (fun hc => by omega)]
        exact hr.mem.domv _ b v hb (by omega)
      · simp only at hv
        rw [← hρ, Env.set_other _ _ (fun hc => by omega), Env.set_other _ _ (fun hc => hne hc.1.symm)]
        exact hr.mem.domv _ e v he (by omega)
    · obtain ⟨s0, q0, g1, g2, g3, g4, g5⟩ := hsrc hq hx
      obtain ⟨t0, u0, f1, f2, f3, f4, f5⟩ := hsrc hu hy
      refine hr.mem.sep s0 t0 q0 u0 g1 f1 ?_ (by rw [g3]; exact hqk) (fun hro => ?_) x y i j g2 f2
      · rcases g4 with ⟨rfl, _⟩ | ⟨rfl, rfl⟩ <;> rcases f4 with ⟨rfl, _⟩ | ⟨rfl, rfl⟩
        · exact hst
        · exact g5
        · exact fun h => f5 h.symm
        · exact absurd rfl hst
      · rcases f4 with ⟨_, rfl⟩ | ⟨_, rfl⟩
        · exact huk hro
        · rw [he] at f1; injection f1 with f1; subst f1; rw [hek] at hro; cases hro
  refine wp_mono (h ρ2 a w (by rw [eo]; exact (hle new e.ver x0 hx0).symm) ⟨hr.size, fun i => ?_, hm⟩) ?_
  · exact (hr.tm i).mono hle
  · rintro ee a' w' ⟨ρ3, tm2, mem2, hr2, hs2, hdd, hq⟩
    refine ⟨ρ3, tm2, mem2, hr2, ?_, hdd, hq⟩
    refine ⟨hs2.os, hs2.tape, hs2.output, hs2.size, by have := hs2.len; simpa using this, fun s hs v x hx => hs2.ext s (by simpa using hs) v x (hle s v x hx), fun s q q' h1 h2 => ?_, fun s q' h1 h2 => ?_, fun n1 hn hn2 => ?_, fun s q' x i h1 h2 h3 => ?_⟩
    · by_cases e1 : s = new
      · subst e1
        rw [he] at h1; injection h1 with h1; subst h1
        rw [hek]; exact hs2.kind s ⟨.grow, e.ty, e.ver + 1, e.esz, []⟩ q' (List.getElem?_set_self (by simpa using hnl)) h2
      · by_cases e2 : s = old
        · subst e2
          rw [hb] at h1; injection h1 with h1; subst h1
          rw [hbk]; exact hs2.kind s ⟨.grow, e.ty, b.ver + 1, e.esz, e.cells⟩ q' (by rw [List.getElem?_set_ne (fun h => e1 h.symm)]; exact List.getElem?_set_self hol) h2
        · exact hs2.kind s q q' (by rw [List.getElem?_set_ne (fun h => e1 h.symm), List.getElem?_set_ne (fun h => e2 h.symm)]; exact h1) h2
    · have := hs2.ro s q' h1 h2
      rcases hgt this with ⟨_, _, h3⟩ | ⟨_, rfl⟩ | ⟨_, rfl⟩
      · exact h3
      · cases h2
      · cases h2
    · refine hs2.frame n1 hn fun s q x i h1 h2 h3 => ?_
      obtain ⟨s0, q0, g1, g2, g3, _, _⟩ := hsrc h1 h3
      exact hn2 s0 q0 x i g1 (by rw [g3]; exact h2) g2
    · rcases hs2.fresh s q' x i h1 h2 h3 with h | ⟨t, q, y, l, g1, g2, g3, g4⟩
      · exact .inl h
      · obtain ⟨s0, q0, f1, f2, f3, _, _⟩ := hsrc g1 g3
        exact .inr ⟨s0, q0, y, l, f1, by rw [f3]; exact g2, f2, g4⟩
/-- A row of our own takes over what another one holds, to which a cell of a block of our own leads; no temporary is asked. -/
theorem AW.moveCell {c : Code} {Q : Exit → Tm → AMem → Prop} (old new n rp j : Nat) {b e p : Blk} (hb : mem[old]? = some b) (hbk : b.kind = .grow) (he : mem[new]? = some e) (hek : e.kind = .grow) (hne : old ≠ new)
    (hp : mem[rp]? = some p) (hpk : p.kind ≠ .ro) (hpo : rp ≠ old) (hpn : rp ≠ new) (hpj : p.cells[j]? = some (.sl new e.ver 0 n))
    (h : AW P nt c tm (((mem.set old ⟨.grow, e.ty, b.ver + 1, e.esz, e.cells⟩).set new ⟨.grow, e.ty, e.ver + 1, e.esz, []⟩).set rp { p with cells := p.cells.set j (.sl old (b.ver + 1) 0 n) }) Q) : AW P nt c tm mem Q :=
  AW.moveQ old new hb hbk he hek hne fun ρ2 a w heq hr => by
    obtain ⟨g1, g2⟩ := hr.mem.recell (r := rp) (j := j) (c := .sl old (b.ver + 1) 0 n) (b := p) (by rw [List.getElem?_set_ne (fun e => hpn e.symm), List.getElem?_set_ne (fun e => hpo e.symm)]; exact hp) hpk hpj (fun v hv => by
      obtain ⟨A, c0, B, cc, h2, h3⟩ := hv
      exact ⟨A, c0, B, cc, by rw [heq]; exact h2, h3⟩)
    refine wp_mono (h ρ2 a w ⟨hr.size, hr.tm, g1⟩) ?_
    rintro ee a' w' ⟨ρ3, tm2, mem2, hr2, hs2, hdd, hq⟩
    exact ⟨ρ3, tm2, mem2, hr2, g2.trans hs2, hdd, hq⟩
end Go.Eng

/-
  ENGINE, PART X: functions that the model itself answers: internal/abi.NoEscape, internal/bytealg.IndexByteString.
-/
set_option linter.unusedVariables false
namespace Go.Eng
open Go
variable {P : Program} {m m' : AMem}
theorem Ctr.extern {f : FuncId} {fn : Func} {e : Array Value → Sem Value} {args : List AV} {ret : AV} (hf : P.funcs[f]? = some fn) (hname : (fn.name == "runtime.NumGoroutine") = false)
    (hb : fn.body.isNone = true) (hn : Extern.findNext fn = none) (he : Extern.find fn = some e)
    (h : ∀ ρ w vs, RepM ρ m w → All2 (VR ρ) args vs → ∃ v w' ρ', (e vs.toArray).run P w = .ok v w' ∧ VR ρ' ret v ∧ RepM ρ' m' w' ∧ Step m ρ w m' ρ' w') : Ctr P f args m ret m' := fun ρ w vs hm ha => by
  obtain ⟨v, w', ρ', h1, h2, h3, h4⟩ := h ρ w vs hm ha
  refine .inr ⟨v, w', ?_, v, ρ', rfl, h2, h3, h4⟩
  rw [run_callFunc_extern hf hname hb hn he, h1]; rfl
theorem noEscape_x {f : FuncId} {fn : Func} (hf : P.funcs[f]? = some fn) (hname : (fn.name == "runtime.NumGoroutine") = false) (hb : fn.body.isNone = true) (hn : Extern.findNext fn = none) (he : Extern.find fn = some Extern.AbiNoEscape.same) (x : AV) (m : AMem) : Ctr P f [x] m x m :=
  Ctr.extern hf hname hb hn he fun ρ w vs hm ha => by
    match vs, ha with
    | [v], ha => exact ⟨v, w, ρ, Lib.run_noEscape w v, ha.1, hm, Step.refl _ _ _⟩
theorem indexByteString_x {f : FuncId} {fn : Func} (hf : P.funcs[f]? = some fn) (hname : (fn.name == "runtime.NumGoroutine") = false) (hb : fn.body.isNone = true) (hn : Extern.findNext fn = none) (he : Extern.find fn = some Extern.BytealgIndexByte.indexByte) (s : ByteArray) (c : Int) (m : AMem) :
    Ctr P f [.one (.str s), .one (.int .u8 c)] m (.one (.int .i64 (firstIdx s c.toNat.toUInt8))) m :=
  Ctr.extern hf hname hb hn he fun ρ w vs hm ha => by
    match vs, ha with
    | [u, v], ha =>
      have e1 : u = _ := ha.1
      have e2 : v = _ := ha.2.1
      subst e1; subst e2
      exact ⟨_, w, ρ, run_indexByte_string s c w, rfl, hm, Step.refl _ _ _⟩
end Go.Eng

/-
  ENGINE, PART Y: a step of a loop over a map of our own: whichever entry is left may come next. What a package-level variable holds, where memory grows.
-/
set_option linter.unusedVariables false
set_option linter.unusedSimpArgs false
namespace Go.Eng
open Go
variable {P : Program} {nt : Nat} {tm : Tm} {mem : AMem} {Q : Exit → Tm → AMem → Prop}

theorem AW.wfI {c : Code} (h : MWf mem.length mem → AW P nt c tm mem Q) : AW P nt c tm mem Q := fun ρ a w hr => h hr.mem.wf ρ a w hr

theorem gB_app {m : AMem} {g : Nat} {cs : List CV} (h : gB m g = some cs) (x : AMem) : gB (m ++ x) g = some cs := by
  unfold gB at h ⊢
  rw [List.find?_append]
  cases hf : m.find? fun b => b.kind.tag == 2 && b.ver == g + 1 && !b.cells.isEmpty with
  | none => rw [hf] at h; cases h
  | some b => rw [hf] at h; simpa using h
theorem gB_set {m : AMem} {g : Nat} {cs : List CV} (h : gB m g = some cs) {r : Nat} {b b' : Blk} (hb : m[r]? = some b) (hk : b.kind ≠ .ro) (hk' : b'.kind ≠ .ro) : gB (m.set r b') g = some cs := by
  have key : ∀ (m : AMem) (r : Nat), m[r]? = some b → ((m.set r b').find? fun b => b.kind.tag == 2 && b.ver == g + 1 && !b.cells.isEmpty) = m.find? fun b => b.kind.tag == 2 && b.ver == g + 1 && !b.cells.isEmpty := by
    intro m
    induction m with
    | nil => intro r h; simp at h
    | cons x m ih =>
      intro r h
      have hno : ∀ y : Blk, y.kind ≠ .ro → (y.kind.tag == 2) = false := fun y hy => by
        rw [beq_eq_false_iff_ne]; exact fun e => hy (BK.tag_ro.1 e)
      cases r with
      | zero =>
        simp only [List.getElem?_cons_zero, Option.some.injEq] at h
        subst h
        simp only [List.set_cons_zero, List.find?_cons, hno _ hk, hno _ hk', Bool.false_and]
      | succ r =>
        simp only [List.getElem?_cons_succ] at h
        simp only [List.set_cons_succ, List.find?_cons, ih r h]
  unfold gB at h ⊢
  rw [key m r hb]; exact h

theorem leftOf_mem {ρ : Env} {ka va : Bool} {seen : List Nat} : ∀ {es : List (Nat × List CV × List CV)} {o : List MapEntry}, All2 (entR ρ ka va) es o → ∀ {x : MapEntry}, x ∈ o → x.born ∉ seen → ∃ (j : Nat) (e : Nat × List CV × List CV), es[j]? = some e ∧ e.1 = x.born ∧ e.1 ∉ seen ∧ entR ρ ka va e x
  | [], [], _, x, h, _ => by cases h
  | e :: es, y :: o, ho, x, h, hs => by
    rcases List.mem_cons.1 h with rfl | h
    · exact ⟨0, e, rfl, ho.1.1.symm, by rw [← ho.1.1]; exact hs, ho.1⟩
    · obtain ⟨j, e', h1, h2⟩ := leftOf_mem ho.2 h hs
      exact ⟨j + 1, e', by simpa using h1, h2⟩
  | [], _ :: _, h, _, _, _ => h.elim
  | _ :: _, [], h, _, _, _ => h.elim

/-- A STEP OF A LOOP OVER A MAP. -/
theorem AW.next {id d t : Nat} {ty : TypeId} {pos : String} {af : Array Edge} {l : List Oper} (ri rm since last : Nat) (seen : List Nat) {ity iesz : Nat} {clock : Nat} {ka va : Bool} {es : List (Nat × List CV × List CV)}
    (hd : d < nt) (hl : l.all (dstOk nt) = true) (hit : Tm.get tm t = .one (.ptr ri 0 0)) (hi : mem[ri]? = some ⟨.iter rm since seen last, ity, 0, iesz, []⟩) (hm : mapAt mem rm 0 = some (ka, va, clock, es))
    (hold : ∀ e, e ∈ es → e.1 < since) (hsc : since ≤ last)
    (hMore : ∀ (j : Nat) (e : Nat × List CV × List CV), es[j]? = some e → e.1 ∉ seen → AOps P (⟨some d, .next (.tmp t) false, ty, pos, af, none⟩ :: l).toArray l ((d, .tup [(false, [.bool true]), (ka, e.2.1), (va, e.2.2)]) :: tm) (mem.set ri ⟨.iter rm since (seen ++ [e.1]) clock, ity, 0, iesz, []⟩) (Q .normal))
    (hDone : (∀ e, e ∈ es → e.1 ∈ seen) → AOps P (⟨some d, .next (.tmp t) false, ty, pos, af, none⟩ :: l).toArray l ((d, .tup [(false, [.bool false])]) :: tm) mem (Q .normal)) :
    AW P nt (.region id (⟨some d, .next (.tmp t) false, ty, pos, af, none⟩ :: l).toArray false) tm mem Q := by
  intro ρ a w hr
  refine wp_region_lit ?_
  refine wpList_plain rfl fun K hK => ?_
  unfold Oper.wp
  have hv := hr.tm t
  rw [hit] at hv
  obtain ⟨n, N, k, k', h1, h2, h3, h4, hv'⟩ := iter_sound hr.mem hi hv
  obtain ⟨b, N', kk, o, hb', hver, hkind, hcells, hρ, hvv, hheap, hall⟩ := mapAt_sound hr.mem hm (v := .map (some N)) ⟨N, k', h2, rfl⟩
  injection hvv with hvv; injection hvv with hvv; subst hvv
  have hold' : ∀ x ∈ o.toList, x.born < since := fun x hx => by
    obtain ⟨i, hi'⟩ := List.getElem?_of_mem hx
    have hlen := hall.length
    have hil : i < es.length := by rw [hlen]; exact (List.getElem?_eq_some_iff.1 hi').1
    obtain ⟨x', hx', g⟩ := hall.get (List.getElem?_eq_getElem hil)
    rw [hi'] at hx'; injection hx' with hx'; subst hx'
    rw [g.1]; exact hold _ (List.getElem_mem hil)
  have hex : ∀ r, (Instr.next (.pointer (some ⟨n, 0, none⟩)) false ty).run P w = r → (execOp a.eval ⟨some d, .next (.tmp t) false, ty, pos, af, none⟩).run P w = r.andThen fun v w' => .ok (.value v) w' := by
    intro r hr'
    have e : a.eval (.tmp t) = .pointer (some ⟨n, 0, none⟩) := hv'
    simp only [execOp, e, Sem.run_bind, hr', Sem.run_pure]
  rcases run_next_at (P := P) w ty n N since last seen.toArray o clock h3 hheap hold' hsc with ⟨h0, hrun⟩ | ⟨x, hx, w1, hw1, hrun⟩
  · rw [hex _ hrun, Result.andThen_ok, Oper.upon_value]
    refine hK _ _ ?_
    have hall0 : ∀ e, e ∈ es → e.1 ∈ seen := fun e he => by
      obtain ⟨i, hi'⟩ := List.getElem?_of_mem he
      obtain ⟨x, hx, g⟩ := hall.get hi'
      rcases Classical.em (e.1 ∈ seen) with h | h
      · exact h
      · exfalso
        have : x ∈ (leftOf o seen.toArray).toList := by
          unfold leftOf
          simp only [Array.toList_filter, List.mem_filter, Bool.not_eq_true', List.contains_toArray]
          exact ⟨List.mem_of_getElem? hx, by rw [g.1]; simpa using h⟩
        rw [Array.eq_empty_of_size_eq_zero h0] at this
        cases this
    have hr1 : Rep ρ nt ((d, .tup [(false, [.bool false])]) :: tm) mem (a.put (some d) (.tuple #[.bool false])) w := hr.put hd ⟨_, rfl, rfl, trivial⟩
    exact aops_sound l _ _ _ hl (hDone hall0) ρ _ w _ hr1 fun ρ' tm' mem' a' w' r s dd k => ⟨ρ', tm', mem', r, s, dd, k⟩
  · rw [hex _ hrun, Result.andThen_ok, Oper.upon_value]
    refine hK _ _ ?_
    have hxo : x ∈ o.toList ∧ x.born ∉ seen := by
      unfold leftOf at hx
      simp only [Array.toList_filter, List.mem_filter, Bool.not_eq_true', List.contains_toArray] at hx
      exact ⟨hx.1, by simpa using hx.2⟩
    obtain ⟨j, e, g1, g2, g3, g4⟩ := leftOf_mem hall hxo.1 hxo.2
    have hw : w1.heap = w.heap ∧ w1.os = w.os ∧ w1.tape = w.tape ∧ w1.output = w.output := by rcases hw1 with rfl | rfl <;> exact ⟨rfl, rfl, rfl, rfl⟩
    have hnl : n < w.heap.size := (Array.getElem?_eq_some_iff.1 h3).1
    have hbk : BlkR ρ (ChangeMaps.setBlock w1 n (.mapIter (some N) since (seen.toArray.push x.born) clock)) ri ⟨.iter rm since (seen ++ [e.1]) clock, ity, 0, iesz, []⟩ := by
      refine ⟨n, N, k, k', h1, h2, ?_, rfl⟩
      show (w1.heap.setIfInBounds n _)[n]? = _
      rw [hw.1, Array.getElem?_setIfInBounds_self_of_lt hnl, g2]
      simp
    obtain ⟨q1, q2⟩ := hr.mem.turn (w' := ChangeMaps.setBlock w1 n (.mapIter (some N) since (seen.toArray.push x.born) clock)) hi (by simp) h1 ⟨.iter rm since (seen ++ [e.1]) clock, ity, 0, iesz, []⟩ rfl rfl (by
        intro m hmn
        show (w1.heap.setIfInBounds n _)[m]? = _
        rw [hw.1, Array.getElem?_setIfInBounds_ne (fun e => hmn e.symm)]) (by show (w1.heap.setIfInBounds n _).size = _; rw [hw.1]; simp) hw.2.1 hw.2.2.1 hw.2.2.2 hbk
    have hr1 : Rep ρ nt ((d, .tup [(false, [.bool true]), (ka, e.2.1), (va, e.2.2)]) :: tm) (mem.set ri ⟨.iter rm since (seen ++ [e.1]) clock, ity, 0, iesz, []⟩) (a.put (some d) (.tuple #[.bool true, x.key, x.val])) (ChangeMaps.setBlock w1 n (.mapIter (some N) since (seen.toArray.push x.born) clock)) :=
      (hr.step q2 q1).put hd ⟨_, rfl, rfl, g4.2.1, g4.2.2.1, trivial⟩
    exact aops_sound l _ _ _ hl (hMore j e g1 g3) ρ _ _ _ hr1 fun ρ' tm' mem' a' w' r s dd k => ⟨ρ', tm', mem', r, q2.trans s, dd, k⟩
end Go.Eng

/-
  ENGINE, PART Z: a law whose row lists package-level variables: what they hold is a read-only block ahead of the arguments.
-/
set_option linter.unusedVariables false
set_option linter.unusedSimpArgs false
namespace Go.Eng
open Go Go.RowKit Go.ChangeShapes Go.WideShapes

section
variable {P : Program} {B : Nat} {H : Type} {enc : TypeId × Value → H} {W : World} {bulk : DataW H → Nat}

/-- The cells that a reading tells, where it tells all. -/
def exactCV (P : Program) {H : Type} : Nat → TypeId → DataW H → Option (List CV)
  | 0, _, _ => none
  | n + 1, t, d => match P.underlying t with
    | some .bool => match d with | .lit (.bool b) => some [.bool b] | _ => none
    | some (.int k) => match d with | .lit (.int k' x) => if k' = k then some [.int k x] else none | _ => none
    | some .string => match d with | .lit (.string s) => some [.str ⟨s.toArray⟩] | _ => none
    | some (.array _ e) => match d with | .agg ds => (ds.mapM (exactCV P n e)).map List.flatten | _ => none
    | _ => none

theorem exact_chunks {α : Type} {e : TypeId} {n fuel sz : Nat} {f : TypeId → List Value → Option (DataW α × List MemPlace)} {ρ : Env} :
    ∀ (l : List Nat) (cs : List Value) (xs : List (DataW α × List MemPlace)) (cvs : List (List CV)),
    All2 (fun i x => f e ((cs.drop (i * sz)).take sz) = some x) l xs → All2 (fun d cv => exactCV P n e d = some cv) (xs.map (·.1)) cvs →
    (∀ c d p cv, f e c = some (d, p) → exactCV P n e d = some cv → All2 (VC ρ) cv c) →
    All2 (fun cv c => All2 (VC ρ) cv c) cvs (l.map fun i => (cs.drop (i * sz)).take sz)
  | [], cs, [], [], _, _, _ => trivial
  | i :: l, cs, x :: xs, cv :: cvs, h1, h2, h3 => ⟨h3 _ x.1 x.2 _ h1.1 h2.1, exact_chunks (fuel := fuel) l cs xs cvs h1.2 h2.2 h3⟩
  | [], _, _ :: _, _, h, _, _ => h.elim
  | _ :: _, _, [], _, h, _, _ => h.elim
  | [], _, [], _ :: _, _, h, _ => h.elim
  | _ :: _, _, _ :: _, [], _, h, _ => h.elim

theorem exact_ok (hl : laidB P = true) {ρ : Env} {sp : Nat → Bool} {held : Bool} : ∀ (n fuel : Nat) (t : TypeId) (cs : List Value) (d : DataW H) (p : List MemPlace) (cv : List CV), t < P.types.size →
    DataW.trod enc P W 0 sp held fuel t cs = some (d, p) → exactCV P n t d = some cv → All2 (VC ρ) cv cs
  | 0, _, _, _, _, _, _, _, _, h => by simp [exactCV] at h
  | n + 1, 0, _, _, _, _, _, _, h, _ => by simp [DataW.trod] at h
  | n + 1, fuel + 1, t, cs0, d, p, cv, hlt, h, he => by
    unfold DataW.trod at h
    split at h
    · rename_i b ht
      simp only [Option.some.injEq, Prod.mk.injEq] at h
      obtain ⟨rfl, rfl⟩ := h
      simp only [exactCV, ht, Option.some.injEq] at he
      subst he
      exact ⟨rfl, trivial⟩
    · rename_i k k' a ht
      split at h
      · rename_i hk
        simp only [Option.some.injEq, Prod.mk.injEq] at h
        obtain ⟨rfl, rfl⟩ := h
        simp only [exactCV, ht, if_true, Option.some.injEq] at he
        subst he
        obtain ⟨rfl, _⟩ := hk
        exact ⟨rfl, trivial⟩
      · cases h
    · rename_i ht
      simp only [exactCV, ht] at he
      cases he
    · rename_i s ht
      split at h
      · simp only [Option.some.injEq, Prod.mk.injEq] at h
        obtain ⟨rfl, rfl⟩ := h
        simp only [exactCV, ht, Option.some.injEq] at he
        subst he
        exact ⟨rfl, trivial⟩
      · cases h
    all_goals first
      | (rename_i ht; simp only [exactCV, ht] at he; cases he; done)
      | (rename_i ht _; simp only [exactCV, ht] at he; cases he; done)
      | (rename_i ht _ _; simp only [exactCV, ht] at he; cases he; done)
      | (cases h; done)
      | skip
    · rename_i cs0 _ _ k e ht
      split at h
      · rename_i hcl
        obtain ⟨xs, hx, h⟩ := Option.map_eq_some_iff.1 h
        simp only [Prod.mk.injEq] at h
        obtain ⟨rfl, rfl⟩ := h
        have h2 := mapM_all2 hx
        have hsz := laid_array hl hlt ht
        simp only [exactCV, ht] at he
        obtain ⟨cvs, hc, rfl⟩ := Option.map_eq_some_iff.1 he
        have h3 := mapM_all2 hc
        have hcl2 : cs0.length = k * P.cellsOf e := by omega
        have := All2_flatten (exact_chunks (P := P) (n := n) (fuel := fuel) (f := fun e c => DataW.trod enc P W 0 sp held fuel e c) (ρ := ρ) (e := e) (List.range k) cs0 xs cvs h2 h3
          (fun c d p cv h1 h2 => exact_ok hl n fuel e c d p cv hsz.2 h1 h2))
        rwa [chunks_flat k cs0 hcl2] at this
      · cases h

/-- A LAW THAT ANSWERS TRUE, whose row lists one package-level variable: its cells are a read-only block. -/
theorem law_true_laid {f : FuncId} {fn : Func} {s : ChangeSpec} {args : Array Value} {ds gs : List (DataW H)} {before : List MemPlace} {tb : TypeId} {base : Nat} (hvars : s.vars = [])
    {nm : String} {dv : DataW Unit} {gv : Nat} {tv : TypeId} {cvv : List CV} {fuelv : Nat} (hlaid : laidMetH P [(nm, dv)] W) (hplain : dv.handleName?.isNone = true) (hg : P.globalNamed nm = some gv) (htv : (P.globals[gv]?).map (·.type) = some tv)
    (hcv : exactCV P fuelv tv dv = some cvv) (hne : cvv.isEmpty = false) (htv2 : tv < P.types.size)
    (hs : ∀ l : List (DataW H), l = ds → s.fn H l = { results := [.lit (.bool true)], args := l }) (hl : laidOutB P = true) (hlb : laidB P = true) (hread : fn.params.toList.all (fun t => P.readableRec t && decide (t < P.types.size)) = true)
    (hres : fn.resultTypes = #[tb]) (htb : P.underlying tb = some .bool) (hb : IsBulk bulk) (hk : ∀ d, d ∈ ds → bulk d ≤ B)
    (hval : ∀ (j : Nat) t v, fn.params[j]? = some t → args[j]? = some v → Value.okWide P W .any base t v)
    (hW : DataW.Whole enc P fn.params.toList s.vars false W args.toList ds gs before)
    (hlaw : ∀ m avs, AllRo m → gB m gv = some cvv → All2 (fun t a => goodA P B m t a) fn.params.toList avs → Ctr P f avs m (.one (.bool true)) m) (hbod : Bodied P f := by exact ⟨_, rfl, rfl, rfl⟩) :
    Calls P f args W fun e W' => ∃ v, e = .returned v ∧ s.post enc P fn false true false false W args v W' := by
  have hread' : ∀ t, t ∈ fn.params.toList → P.readableRec t = true ∧ t < P.types.size := fun t ht => by
    have := List.all_eq_true.1 hread t ht
    simpa using this
  obtain ⟨p, q, hA, hV, he, hz, hn⟩ := id hW
  rw [MakeChecks.laidMetH_plain _ _ _ (by simpa using hplain)] at hlaid
  obtain ⟨ps, hlv, _, _⟩ := hlaid
  obtain ⟨g', t', cs, fuel, p', q', e1, e2, e3, e4, _, _⟩ := hlv
  rw [hg] at e1; injection e1 with e1; subst e1
  rw [htv] at e2; injection e2 with e2; subst e2
  have h0 : RepM (fun _ _ => none) [] W := ⟨fun r b h => by simp at h, fun _ _ _ => rfl, fun r b v h => by simp at h, fun r s b c h => by simp at h⟩
  have hex : ∀ ρ : Env, All2 (VC ρ) cvv cs.toList := fun ρ => exact_ok hlb fuelv fuel tv cs.toList dv p' cvv htv2 e4 hcv
  have hheap : ∃ t z, W.heap[gv]? = some (.cells cs t z) := by
    unfold World.var? at e3
    rw [hg] at e3
    simp only [Option.bind_some] at e3
    split at e3
    · rename_i cs' t z hh
      injection e3 with e3; subst e3
      exact ⟨t, z, hh⟩
    · cases e3
  obtain ⟨th, zh, hh⟩ := hheap
  obtain ⟨q1, q2, q3⟩ := h0.roBlkV (fun b h => by cases h) (gv + 1) (some ⟨gv, 0, none⟩) 0 tv 0 cvv (fun _ => by
    refine ⟨⟨gv, 0, none⟩, rfl, (Array.getElem?_eq_some_iff.1 hh).1, fun _ => ⟨rfl, cs, th, zh, hh, by rw [← Array.length_toList]; exact (hex (fun _ _ => none)).length.symm⟩, fun i c hi => ?_⟩
    obtain ⟨v, hv, hvv⟩ := (hex (fun _ _ => none)).get hi
    refine ⟨v, ?_, hvv⟩
    have e : (⟨gv, 0, none⟩ : Addr).add i = ⟨gv, i, none⟩ := by
      unfold Addr.add
      by_cases hi0 : i = 0
      · subst hi0; rfl
      · rw [if_neg hi0]; simp
    rw [e]
    unfold World.cell?
    rw [hh]
    simpa using hv)
  obtain ⟨ρ, ex, avs, k1, k2, k3, k4, k5⟩ := read_args hlb hb (base := base) _ _ _ _ hA (fun i t v h1 h2 => hval i t v (by simpa using h1) (by simpa using h2)) hk (fun t ht => (hread' t ht).2) _ _ q2 q3
  have hgb : gB ([] ++ [(⟨.ro, tv, gv + 1, 0, cvv⟩ : Blk)] ++ ex) gv = some cvv := gB_app (by
    unfold gB
    simp [BK.tag, hne]) ex
  have hc := (hlaw _ avs k2 hgb k5 ρ W _ k1 k4).calls hbod
  rw [show args.toList.toArray = args by simp] at hc
  refine hc.mono fun e W' ⟨v, ρ', e1, hv, hm, hst⟩ => ?_
  have hv' : v = .bool true := hv
  subst e1; subst hv'
  exact ⟨_, rfl, post_true hvars hs hl hread' hres htb hW (hst.below k2)⟩
end
end Go.Eng

/-
  ENGINE, PART Sh: contracts of the library's shelf, as contracts of the engine: a row of our own that is sorted in place.
-/
set_option linter.unusedVariables false
set_option linter.unusedSimpArgs false
namespace Go.Eng
open Go

/-- A world with more blocks, and draws. -/
theorem RepM.ext {ρ : Env} {mem : AMem} {w w' : World} (h : RepM ρ mem w) (hos : w'.os = w.os) (htape : w'.tape = w.tape) (hout : w'.output = w.output) (hsize : w.heap.size ≤ w'.heap.size)
    (hheap : ∀ k, k < w.heap.size → w'.heap[k]? = w.heap[k]?) : RepM ρ mem w' ∧ Step mem ρ w mem ρ w' :=
  ⟨⟨fun r b hb => (h.blk r b hb).heap hsize fun x k _ _ hx => hheap _ hx, h.dom, h.domv, h.sep⟩,
   ⟨hos, htape, hout, hsize, Nat.le_refl _, fun _ _ _ _ h => h, fun r b b' h1 h2 => by rw [h1] at h2; injection h2 with h2; rw [h2], fun r b h1 _ => h1, fun n hn _ => hheap n hn, fun r b x k h1 h2 h3 => .inr ⟨r, b, x, k, h1, h2, h3, rfl⟩⟩⟩

theorem holds_of {ρ : Env} {w : World} {n : Nat} {c : Array Value} {ty : TypeId} {esz : Nat} (h : RowAt w n c ty esz) {xs sp : List Value} (hc : c.toList = xs ++ sp) : Sort.Holds id w n 0 xs.toArray := by
  obtain ⟨fz, hfz, hh⟩ := h
  intro j hj
  have hjl : j < xs.length := by simpa using hj
  have hx : c[j]? = some xs[j] := by
    rw [← Array.getElem?_toList, hc, List.getElem?_append_left hjl, List.getElem?_eq_getElem hjl]
  have hjc : j < c.size := (Array.getElem?_eq_some_iff.1 hx).1
  refine ⟨?_, ?_⟩
  · simp only [World.cell?, hh, Option.isSome_none, Bool.false_eq_true, if_false, Nat.zero_add, hx]
    simp [hjl]
  · simp only [World.frozen?, hh, Nat.zero_add]
    rcases hfz with rfl | rfl
    · simp
    · unfold fzOf; split
      · simp; omega
      · simp
theorem putRow_at {w : World} {n : Nat} {c : Array Value} {ty : TypeId} {esz : Nat} (h : RowAt w n c ty esz) {xs sp ys : List Value} (hc : c.toList = xs ++ sp) (hl : ys.length = xs.length) (k : Nat) (os : Array Obj) :
    ∃ c' : Array Value, RowAt (Sort.grow (Sort.putRow id (Sort.ahead w k) n 0 ys.toArray) os) n c' ty esz ∧ c'.size = c.size ∧ c'.toList = ys ++ sp := by
  obtain ⟨fz, hfz, hh⟩ := h
  have hlt : n < w.heap.size := (Array.getElem?_eq_some_iff.1 hh).1
  refine ⟨Sort.putCells id 0 ys.toArray c, ⟨fz, by simpa [Sort.putCells] using hfz, ?_⟩, by simp [Sort.putCells], ?_⟩
  · rw [Sort.heap_grow_old _ _ (by simpa using hlt)]
    show ((w.heap.modify n _)[n]?) = _
    rw [Array.getElem?_modify, if_pos rfl, hh]
    rfl
  · have hcs : c.size = xs.length + sp.length := by rw [← Array.length_toList, hc, List.length_append]
    refine List.ext_getElem? fun j => ?_
    rw [Array.getElem?_toList]
    simp only [Sort.putCells, Array.getElem?_mapIdx, Nat.zero_le, true_and, Nat.zero_add, Nat.sub_zero, List.size_toArray]
    rcases Nat.lt_or_ge j ys.length with hj | hj
    · have hjc : j < c.size := by omega
      rw [Array.getElem?_eq_getElem hjc, List.getElem?_append_left hj]
      simp [hj]
    · rw [List.getElem?_append_right hj]
      have : c[j]? = (xs ++ sp)[j]? := by rw [← hc, Array.getElem?_toList]
      rw [this, List.getElem?_append_right (by omega), hl]
      cases sp[j - xs.length]? with
      | none => rfl
      | some v => rw [Option.map_some, if_neg (by omega)]

/-- A row of our own whose cells turn in place, in a world with more blocks, and draws. -/
theorem RepM.rowIn {ρ : Env} {mem : AMem} {w : World} (hm : RepM ρ mem w) {r ty ver esz cap n : Nat} {cs cs' : List CV} (hb : mem[r]? = some ⟨.grow, ty, ver, esz, cs⟩) (hρ : ρ r ver = some (some ⟨n, 0, none⟩, cap)) {c : Array Value} {xs sp ys : List Value}
    (hrow : RowAt w n c ty esz) (hsz : c.size = cap * unitOf esz) (hcm : cap ≤ maxLen) (hc : c.toList = xs ++ sp) (hl : ys.length = xs.length) (hys : All2 (VC ρ) cs' ys) (k : Nat) (os : Array Obj) :
    RepM ρ (mem.set r ⟨.grow, ty, ver, esz, cs'⟩) (Sort.grow (Sort.putRow id (Sort.ahead w k) n 0 ys.toArray) os) ∧ Step mem ρ w (mem.set r ⟨.grow, ty, ver, esz, cs'⟩) ρ (Sort.grow (Sort.putRow id (Sort.ahead w k) n 0 ys.toArray) os) := by
  obtain ⟨c1, g1, g2, g3⟩ := putRow_at hrow hc hl k #[]
  rw [Sort.grow_empty] at g1
  obtain ⟨a1, a2⟩ := hm.turn (w' := Sort.putRow id (Sort.ahead w k) n 0 ys.toArray) hb (by simp) hρ ⟨.grow, ty, ver, esz, cs'⟩ rfl rfl (fun m hmn => by
      show ((w.heap.modify n _)[m]?) = _
      rw [Array.getElem?_modify, if_neg (fun e => hmn e.symm)]) (by simp) rfl rfl rfl
    (.inr ⟨n, c1, cap, ys, sp, hρ, g1, by rw [g2]; exact hsz, hcm, g3, hys⟩)
  obtain ⟨b1, b2⟩ := a1.ext (w' := Sort.grow (Sort.putRow id (Sort.ahead w k) n 0 ys.toArray) os) rfl rfl rfl (by simp [Sort.grow]) (fun k hk => Sort.heap_grow_old _ _ hk)
  exact ⟨b1, a2.trans b2⟩

theorem holds_map {w : World} {b o : Nat} {zs : List Int} (h : Sort.Holds id w b o (zs.map (Value.int .i64)).toArray) : Sort.Holds (Value.int .i64) w b o zs.toArray := fun j hj => by
  have hj' : j < zs.length := by simpa using hj
  have := h j (by simpa using hj')
  simpa [hj'] using this
theorem putCells_map (d : List Int) (c : Array Value) : Sort.putCells (Value.int .i64) 0 d.toArray c = Sort.putCells id 0 (d.map (Value.int .i64)).toArray c := by
  unfold Sort.putCells
  congr 1
  funext k x
  simp only [Nat.zero_le, true_and, Nat.zero_add, Nat.sub_zero, List.size_toArray, List.length_map]
  by_cases h : k < d.length
  · rw [if_pos h, if_pos h]; simp [h]
  · rw [if_neg h, if_neg h]
theorem all2_ints {ρ : Env} : ∀ {zs : List Int} {xs : List Value}, All2 (VC ρ) (zs.map (CV.int .i64)) xs → xs = zs.map (Value.int .i64)
  | [], [], _ => rfl
  | z :: zs, x :: xs, h => by
    have h1 : x = .int .i64 z := h.1
    rw [List.map_cons, h1, all2_ints h.2]
  | [], _ :: _, h => h.elim
  | _ :: _, [], h => h.elim
theorem all2_ints' {ρ : Env} : ∀ {zs : List Int}, All2 (VC ρ) (zs.map (CV.int .i64)) (zs.map (Value.int .i64))
  | [] => trivial
  | z :: zs => ⟨rfl, all2_ints'⟩
abbrev SortsInts (P : Program) (f : FuncId) : Prop := ∀ (blk off cap : Nat) (zs : List Int) (w : World), Sort.Holds (Value.int .i64) w blk off zs.toArray → blk < w.heap.size → zs.length < 4611686018427387904 →
    Calls P f #[.slice (some ⟨blk, off, none⟩) zs.length cap] w fun e w' =>
      e = .returned (.tuple #[]) ∧ ∃ n os, w' = Sort.grow (Sort.putRow (Value.int .i64) (Sort.ahead w n) blk off (zs.mergeSort fun x y => decide (x ≤ y)).toArray) os
abbrev SortsNone (P : Program) (f : FuncId) : Prop := ∀ (p : Option Addr) (cap : Nat) (w : World), Calls P f #[.slice p 0 cap] w fun e w' => e = .returned (.tuple #[]) ∧ w' = w
def srt (zs : List Int) : List Int := zs.mergeSort fun x y => decide (x ≤ y)
/-- slices.Sort of ints, at a row of our own. -/
theorem Ctr.sortInts {P : Program} {f : FuncId} (hb : Bodied P f) (h1 : SortsInts P f) (h0 : SortsNone P f) {mem : AMem} {r ty ver : Nat} {zs : List Int} (hr : mem[r]? = some ⟨.grow, ty, ver, 1, zs.map (CV.int .i64)⟩) (hlen : zs.length ≤ 140737488355328) (n : Nat) (hn : n = zs.length) :
    Ctr P f [.one (.sl r ver 0 n)] mem (.tup []) (mem.set r ⟨.grow, ty, ver, 1, (srt zs).map (CV.int .i64)⟩) := by
  subst hn
  intro ρ w vs hm ha
  obtain ⟨A, c0, B, c, hρ, rfl, hlc, hB, h00⟩ : ∃ A c0 B c, ρ r ver = some (A, c0) ∧ vs = [.slice B zs.length c] ∧ zs.length ≤ c ∧ (0 < zs.length → ∃ a, A = some a ∧ B = some (a.add 0)) ∧ (0 = 0 → B = A ∧ c = c0) := by
    match vs, ha with
    | [v], ha =>
      obtain ⟨A, c0, B, c, q1, rfl, q2, q3, q4⟩ := ha.1
      exact ⟨A, c0, B, c, q1, rfl, q2, q3, q4⟩
  obtain ⟨rfl, rfl⟩ := h00 rfl
  have hbk := hm.blk r _ hr
  simp only [BlkR] at hbk
  refine .inl ⟨hb, ?_⟩
  by_cases hz : zs.length = 0
  · have hzs : zs = [] := List.eq_nil_of_length_eq_zero hz
    subst hzs
    have hsame : mem.set r ⟨.grow, ty, ver, 1, (srt []).map (CV.int .i64)⟩ = mem := set_self (by simpa [srt] using hr)
    rw [hsame]
    refine (h0 B c w).mono ?_
    rintro e w' ⟨rfl, rfl⟩
    exact ⟨_, ρ, rfl, ⟨#[], rfl, trivial⟩, hm, Step.refl _ _ _⟩
  · obtain ⟨a, rfl, _⟩ := hB (by omega)
    rcases hbk with ⟨q1, q2⟩ | ⟨g, cc, cap, xs, sp, q1, q2, q3, q4, q5, q6⟩
    · rw [q2] at hρ; injection hρ with hρ; injection hρ with hρ _; cases hρ
    · rw [q1] at hρ; injection hρ with hρ; injection hρ with e1 e2
      injection e1 with e1
      subst e1; subst e2
      have hxs := all2_ints q6
      subst hxs
      have hH := holds_map (holds_of q2 (ρ := ρ) q5)
      refine (h1 g 0 cap zs w hH q2.lt (by omega)).mono ?_
      rintro e w' ⟨rfl, n, os, rfl⟩
      have hpl : (srt zs).length = zs.length := by unfold srt; rw [List.length_mergeSort]
      have hw : Sort.putRow (Value.int .i64) (Sort.ahead w n) g 0 (zs.mergeSort fun x y => decide (x ≤ y)).toArray = Sort.putRow id (Sort.ahead w n) g 0 ((srt zs).map (Value.int .i64)).toArray := by
        unfold Sort.putRow
        congr 1
        funext c
        exact putCells_map _ c
      rw [hw]
      obtain ⟨g1, g2⟩ := hm.rowIn hr q1 q2 q3 q4 q5 (by simp [hpl]) (all2_ints' (zs := srt zs)) n os
      exact ⟨_, ρ, rfl, ⟨#[], rfl, trivial⟩, g1, g2⟩

/-- slices.Sorted of a map's keys, as the shelf says it. -/
abbrev SortedKeys (P : Program) (f g : FuncId) (kt et : TypeId) : Prop := ∀ (Bm b nn : Nat) (D0 : DataW Nat) (w : World), Bm < w.heap.size → w.cell? ⟨Bm, 0, none⟩ = some (.map (some b)) → w.ownsMap P kt (fun _ => some (.nil, [])) b nn D0 →
    Maps.size D0 ≤ maxLen → Maps.size D0 * 8 ≤ 140737488355328 → Calls P f #[.func (.func g) #[] #[.pointer (some ⟨Bm, 0, none⟩)]] w fun e w' => ∃ (v : Value) (ss : List Int), e = .returned v ∧ ss.Perm (intKeys D0) ∧
      w'.ownsRow w.heap.size et 1 v ss.length ((ss.mergeSort fun x y => decide (x ≤ y)).map encZ) ∧ RowKit.Below w.heap.size w w'
theorem Ctr.sortedKeys {P : Program} {f g : FuncId} {kt et : TypeId} (hb : Bodied P f) (hs : SortedKeys P f g kt et) (hkt : P.underlying kt = some (.int .i64)) {mem : AMem} {rb tb eb rm clock : Nat} {va : Bool} {es : List (Nat × List CV × List CV)}
    (hbx : mem[rb]? = some ⟨.fix, tb, 0, eb, [.mp rm 0]⟩) (hmp : mapAt mem rm 0 = some (false, va, clock, es)) (ks : List Int) (hks : es.map (·.2.1) = ks.map fun k => [CV.int .i64 k]) (hbnd : ∀ k, k ∈ ks → -9223372036854775808 ≤ k ∧ k ≤ 9223372036854775807) (hnk : ks.Nodup)
    (hold : ∀ e, e ∈ es → e.1 < clock) (hnb : (es.map (·.1)).Nodup) (hlen : ks.length ≤ 17592186044416) (n : Nat) (hn : n = ks.length) :
    Ctr P f [.one (.fn g [(rb, 0, 0)])] mem (.one (.sl mem.length 0 0 n)) (mem ++ [⟨.grow, et, 0, 1, (srt ks).map (CV.int .i64)⟩]) := by
  subst hn
  intro ρ w vs hm ha
  obtain ⟨a, kk, hρ, rfl⟩ : ∃ a kk, ρ rb 0 = some (some a, kk) ∧ vs = [.func (.func g) #[] #[.pointer (some (a.add 0))]] := by
    match vs, ha with
    | [v], ha =>
      obtain ⟨us, rfl, hu⟩ := ha.1
      obtain ⟨l⟩ := us
      match l, hu with
      | [x], hu =>
        obtain ⟨a, k, q1, rfl⟩ := hu.1
        exact ⟨a, k, q1, rfl⟩
  have hbk := hm.blk rb _ hbx
  simp only [BlkR] at hbk
  obtain ⟨nb, c, k, q1, q2, q3, q4⟩ := hbk
  rw [q1] at hρ; injection hρ with hρ; injection hρ with e1 e2; injection e1 with e1; subst e1; subst e2
  obtain ⟨l⟩ := c
  match l, q3 with
  | [x], q3 =>
    obtain ⟨N, kN, q5, rfl⟩ := q3.1
    obtain ⟨b, N', kk, o, hb', hver, hkind, hcells, hρ', hvv, hheap, hall⟩ := mapAt_sound hm hmp (v := .map (some N)) ⟨N, kN, q5, rfl⟩
    injection hvv with hvv; injection hvv with hvv; subst hvv
    have hkey : ∀ (j : Nat) (x : MapEntry), o.toList[j]? = some x → ∃ kx, ks[j]? = some kx ∧ x.key = .int .i64 kx ∧ ∃ e, es[j]? = some e ∧ x.born = e.1 := by
      intro j x hx
      have hj : j < es.length := by rw [hall.length]; exact (List.getElem?_eq_some_iff.1 hx).1
      obtain ⟨x', hx', g⟩ := hall.get (List.getElem?_eq_getElem hj)
      rw [hx] at hx'; injection hx' with hx'; subst hx'
      have h1 : (es.map (·.2.1))[j]? = some (es[j].2.1) := by rw [List.getElem?_map, List.getElem?_eq_getElem hj]; rfl
      rw [hks, List.getElem?_map] at h1
      obtain ⟨kx, h2, h3⟩ := Option.map_eq_some_iff.1 h1
      have g2 := g.2.1
      rw [← h3] at g2
      exact ⟨kx, h2, g2, _, List.getElem?_eq_getElem hj, g.1⟩
    have hol : o.toList.length = ks.length := by
      rw [← hall.length]
      have := congrArg List.length hks
      simpa using this
    have hborn : o.toList.map (·.born) = es.map (·.1) := by
      refine List.ext_getElem? fun j => ?_
      simp only [List.getElem?_map]
      cases hx : o.toList[j]? with
      | none =>
        rw [List.getElem?_eq_none_iff] at hx
        rw [List.getElem?_eq_none (by rw [hall.length]; exact hx)]; rfl
      | some x =>
        obtain ⟨kx, _, _, e, h4, h5⟩ := hkey j x hx
        rw [h4]; simp [h5]
    have hkeys : o.toList.map (·.key) = ks.map (Value.int .i64) := by
      refine List.ext_getElem? fun j => ?_
      simp only [List.getElem?_map]
      cases hx : o.toList[j]? with
      | none =>
        rw [List.getElem?_eq_none_iff] at hx
        rw [List.getElem?_eq_none (by omega)]; rfl
      | some x =>
        obtain ⟨kx, h4, h5, _⟩ := hkey j x hx
        rw [h4]; simp [h5]
    have hrd : ∀ x, x ∈ o.toList → ∃ kx, kx ∈ ks ∧ x.key = .int .i64 kx ∧ WideElems.rd P kt (fun _ => some (DataW.nil (H := Nat), [])) x = some (.int .i64 kx, .nil) := by
      intro x hx
      obtain ⟨j, hj⟩ := List.getElem?_of_mem hx
      obtain ⟨kx, h4, h5, _⟩ := hkey j x hj
      have hmem := List.mem_of_getElem? h4
      have := hbnd kx hmem
      refine ⟨kx, hmem, h5, ?_⟩
      have hwf : (Lit.int .i64 kx).wf = true := by simp [Lit.wf, IntKind.min, IntKind.max, IntKind.signed, IntKind.bits]; omega
      simp [WideElems.rd, h5, Maps.keyOf_int_mk hkt hwf]
    have hown : w.ownsMap P kt (fun _ => some (DataW.nil (H := Nat), [])) N o.size (.map ((o.toList.map (WideElems.rg P kt (fun _ => some (DataW.nil, [])))).foldr DataW.insert [])) := by
      refine ⟨o, clock, hheap, ⟨?_, ⟨fun x hx => ?_, ?_, ?_⟩, fun x hx => ?_⟩, Nat.le_refl _, rfl⟩
      · rw [← Array.length_toList, hol]; unfold maxLen; omega
      · have : x.born ∈ es.map (·.1) := by rw [← hborn]; exact List.mem_map_of_mem hx
        obtain ⟨e, he, h1⟩ := List.mem_map.1 this
        rw [← h1]; exact hold e he
      · rw [hborn]; exact hnb
      · rw [hkeys]; exact List.pairwise_map.2 (hnk.imp fun hne e => hne (by injection e))
      · obtain ⟨kx, _, _, h⟩ := hrd x hx; exact ⟨_, h⟩
    have hperm : (intKeys (DataW.map (H := Nat) ((o.toList.map (WideElems.rg P kt (fun _ => some (DataW.nil, [])))).foldr DataW.insert []))).Perm ks := by
      have h1 := (WideShapes.sorted_perm (H := Nat) (o.toList.map (WideElems.rg P kt (fun _ => some (DataW.nil, []))))).map fun p => intOf p.1
      refine h1.trans ?_
      rw [List.map_map]
      have h2 : o.toList.map ((fun p => intOf p.1) ∘ WideElems.rg P kt (fun _ => some (DataW.nil (H := Nat), []))) = ks := by
        refine List.ext_getElem? fun j => ?_
        rw [List.getElem?_map]
        cases hx : o.toList[j]? with
        | none =>
          rw [List.getElem?_eq_none_iff] at hx
          rw [List.getElem?_eq_none (by omega)]; rfl
        | some x =>
          obtain ⟨kx, h4, h5, _⟩ := hkey j x hx
          obtain ⟨ky, _, h6, h7⟩ := hrd x (List.mem_of_getElem? hx)
          rw [h5] at h6; injection h6 with _ h6; subst h6
          rw [h4]
          simp [WideElems.rg, h7, intOf]
      rw [h2]
    have hsz : Maps.size (DataW.map (H := Nat) ((o.toList.map (WideElems.rg P kt (fun _ => some (DataW.nil, [])))).foldr DataW.insert [])) = ks.length := by
      have := (WideShapes.sorted_perm (H := Nat) (o.toList.map (WideElems.rg P kt (fun _ => some (DataW.nil, []))))).length_eq
      rw [List.length_map, hol] at this
      exact this
    refine .inl ⟨hb, (hs nb N o.size _ w (Array.getElem?_eq_some_iff.1 q2).1 (by simp [World.cell?, q2]) hown (by rw [hsz]; unfold maxLen; omega) (by rw [hsz]; omega)).mono ?_⟩
    rintro e w' ⟨v, ss, rfl, hp, hrow, hbel⟩
    have hss : ss.mergeSort (fun x y => decide (x ≤ y)) = srt ks := mergeSort_of_perm_i (hp.trans hperm)
    rw [hss, (hp.trans hperm).length_eq] at hrow
    obtain ⟨A, cap, rfl, hnc, hA, hAb, hbr⟩ := blk_of_owns (r := mem.length) (ver := 0) hrow (by omega) (all2_ints' (ρ := ρ) (zs := srt ks))
    have hle : ρ.le (ρ.set mem.length 0 (A, cap)) := Env.le_set (hm.dom _ _ (Nat.le_refl _))
    have hbase : ∀ x, A = some x → w.heap.size ≤ x.block := by
      rintro x rfl
      rcases hrow.2 with ⟨h, _⟩ | ⟨g', cap', cur, h, hbg, _⟩
      · cases h
      · injection h with h; injection h with h; rw [h]; exact hbg
    obtain ⟨g1, g2⟩ := hm.new' (w' := w') hbel.os hbel.tape hbel.output hbel.size hbel.block ⟨.grow, et, 0, 1, (srt ks).map (CV.int .i64)⟩ A cap hbase (by simp) (hbr _ (fun _ _ => VC.mono hle) (Env.set_same _ _ _ _))
    refine ⟨_, _, rfl, ⟨A, cap, A, cap, Env.set_same _ _ _ _, rfl, hnc, fun hpos => ?_, fun _ => ⟨rfl, rfl⟩⟩, g1, g2⟩
    cases A with
    | none => have := (hA rfl).2; omega
    | some a => exact ⟨a, rfl, by simp [Addr.add]⟩
end Go.Eng

/-
  ENGINE, PART Zb: a law whose row lists two package-level variables that are read; contracts of strconv.Itoa, strconv.Atoi (off the shelf) and of internal/bytealg.IndexByte at rows.
-/
set_option linter.unusedVariables false
set_option linter.unusedSimpArgs false
namespace Go.Eng
open Go Go.RowKit Go.ChangeShapes Go.WideShapes

section
variable {P : Program} {B : Nat} {H : Type} {enc : TypeId × Value → H} {W : World} {bulk : DataW H → Nat}
/-- What a package-level variable holds. -/
structure RoFact (W : World) (g : Nat) (cvv : List CV) : Prop where
  ne : cvv.isEmpty = false
  at_ : ∃ cs t z, W.heap[g]? = some (.cells cs t z) ∧ ∀ ρ : Env, All2 (VC ρ) cvv cs.toList
theorem heap_of_var {nm : String} {cs : Array Value} {g : Nat} (h : W.var? P nm = some cs) (hg : P.globalNamed nm = some g) : ∃ t z, W.heap[g]? = some (.cells cs t z) := by
  unfold World.var? at h
  rw [hg] at h
  simp only [Option.bind_some] at h
  split at h
  · rename_i cs' t z hh
    injection h with h; subst h
    exact ⟨t, z, hh⟩
  · cases h
theorem ro_of_laid {nm : String} {dv : DataW Unit} {r : List (String × DataW Unit)} {gv : Nat} {tv : TypeId} {cvv : List CV} {fuelv : Nat} (hlb : laidB P = true) (hlaid : laidMet P ((nm, dv) :: r) W) (hg : P.globalNamed nm = some gv)
    (htv : (P.globals[gv]?).map (·.type) = some tv) (hcv : exactCV P fuelv tv dv = some cvv) (hne : cvv.isEmpty = false) (htv2 : tv < P.types.size) : RoFact W gv cvv := by
  obtain ⟨ps, hlv, _, _⟩ := hlaid
  obtain ⟨g', t', cs, fuel, p', q', e1, e2, e3, e4, _, _⟩ := hlv
  rw [hg] at e1; injection e1 with e1; subst e1
  rw [htv] at e2; injection e2 with e2; subst e2
  obtain ⟨t, z, hh⟩ := heap_of_var e3 hg
  exact ⟨hne, cs, t, z, hh, fun ρ => exact_ok hlb fuelv fuel tv cs.toList dv p' cvv htv2 e4 hcv⟩
theorem ro_of_sentinel {nm : String} {g tp : Nat} {p : Value} (h : W.var? P nm = some #[.iface tp p]) (hg : P.globalNamed nm = some g) : RoFact W g [.ifj tp] := by
  obtain ⟨t, z, hh⟩ := heap_of_var h hg
  exact ⟨rfl, _, t, z, hh, fun ρ => ⟨⟨p, rfl⟩, trivial⟩⟩
theorem ro_mem {g : Nat} {cvv : List CV} (h : RoFact W g cvv) (ty : TypeId) {ρ : Env} {m : AMem} (hm : RepM ρ m W) (hro : AllRo m) : ∃ ρ' : Env, ρ.le ρ' ∧ RepM ρ' (m ++ [⟨.ro, ty, g + 1, 0, cvv⟩]) W ∧ AllRo (m ++ [⟨.ro, ty, g + 1, 0, cvv⟩]) := by
  obtain ⟨hne, cs, th, zh, hh, hex⟩ := h
  obtain ⟨q1, q2, q3⟩ := hm.roBlkV hro (g + 1) (some ⟨g, 0, none⟩) 0 ty 0 cvv (fun _ => by
    refine ⟨⟨g, 0, none⟩, rfl, (Array.getElem?_eq_some_iff.1 hh).1, fun _ => ⟨rfl, cs, th, zh, hh, by rw [← Array.length_toList]; exact (hex (fun _ _ => none)).length.symm⟩, fun i c hi => ?_⟩
    obtain ⟨v, hv, hvv⟩ := (hex ρ).get hi
    refine ⟨v, ?_, hvv⟩
    have e : (⟨g, 0, none⟩ : Addr).add i = ⟨g, i, none⟩ := by
      unfold Addr.add
      by_cases hi0 : i = 0
      · subst hi0; rfl
      · rw [if_neg hi0]; simp
    rw [e]
    unfold World.cell?
    rw [hh]
    simpa using hv)
  exact ⟨_, q1, q2, q3⟩
/-- A LAW THAT ANSWERS TRUE, two of whose listed variables are read: their cells are read-only blocks. -/
theorem law_true_ro2 {f : FuncId} {fn : Func} {s : ChangeSpec} {args : Array Value} {ds gs : List (DataW H)} {before : List MemPlace} {tb : TypeId} {base : Nat} (hvars : s.vars = [])
    {g1 g2 t1 t2 : Nat} {c1 c2 : List CV} (h1 : RoFact W g1 c1) (h2 : RoFact W g2 c2) (hgg : g1 ≠ g2)
    (hs : ∀ l : List (DataW H), l = ds → s.fn H l = { results := [.lit (.bool true)], args := l }) (hl : laidOutB P = true) (hlb : laidB P = true) (hread : fn.params.toList.all (fun t => P.readableRec t && decide (t < P.types.size)) = true)
    (hres : fn.resultTypes = #[tb]) (htb : P.underlying tb = some .bool) (hb : IsBulk bulk) (hk : ∀ d, d ∈ ds → bulk d ≤ B)
    (hval : ∀ (j : Nat) t v, fn.params[j]? = some t → args[j]? = some v → Value.okWide P W .any base t v)
    (hW : DataW.Whole enc P fn.params.toList s.vars false W args.toList ds gs before)
    (hlaw : ∀ m avs, AllRo m → gB m g1 = some c1 → gB m g2 = some c2 → All2 (fun t a => goodA P B m t a) fn.params.toList avs → Ctr P f avs m (.one (.bool true)) m) (hbod : Bodied P f := by exact ⟨_, rfl, rfl, rfl⟩) :
    Calls P f args W fun e W' => ∃ v, e = .returned v ∧ s.post enc P fn false true false false W args v W' := by
  have hread' : ∀ t, t ∈ fn.params.toList → P.readableRec t = true ∧ t < P.types.size := fun t ht => by
    have := List.all_eq_true.1 hread t ht
    simpa using this
  obtain ⟨p, q, hA, hV, he, hz, hn⟩ := id hW
  have h0 : RepM (fun _ _ => none) [] W := ⟨fun r b h => by simp at h, fun _ _ _ => rfl, fun r b v h => by simp at h, fun r s b c h => by simp at h⟩
  obtain ⟨ρ1, _, q2, q3⟩ := ro_mem h1 t1 h0 (fun b h => by cases h)
  obtain ⟨ρ2, _, q5, q6⟩ := ro_mem h2 t2 q2 q3
  obtain ⟨ρ, ex, avs, k1, k2, k3, k4, k5⟩ := read_args hlb hb (base := base) _ _ _ _ hA (fun i t v h1 h2 => hval i t v (by simpa using h1) (by simpa using h2)) hk (fun t ht => (hread' t ht).2) _ _ q5 q6
  have e1 := h1.ne
  have e2 := h2.ne
  have hgb1 : gB ([] ++ [(⟨.ro, t1, g1 + 1, 0, c1⟩ : Blk)] ++ [(⟨.ro, t2, g2 + 1, 0, c2⟩ : Blk)] ++ ex) g1 = some c1 := gB_app (by
    unfold gB
    simp [BK.tag, e1]) ex
  have hgb2 : gB ([] ++ [(⟨.ro, t1, g1 + 1, 0, c1⟩ : Blk)] ++ [(⟨.ro, t2, g2 + 1, 0, c2⟩ : Blk)] ++ ex) g2 = some c2 := gB_app (by
    unfold gB
    simp [BK.tag, e2, hgg]) ex
  have hc := (hlaw _ avs k2 hgb1 hgb2 k5 ρ W _ k1 k4).calls hbod
  rw [show args.toList.toArray = args by simp] at hc
  refine hc.mono fun e W' ⟨v, ρ', e1, hv, hm, hst⟩ => ?_
  have hv' : v = .bool true := hv
  subst e1; subst hv'
  exact ⟨_, rfl, post_true hvars hs hl hread' hres htb hW (hst.below k2)⟩
end

/-- From a contract that uses what the listed variables hold to a row that bears a condition of its own. -/
theorem returns_row_laid {H : Type} {enc : TypeId × Value → H} {a : Assume} {C : Checked} {os : Os} {f : FuncId} {fn : Func} {s : OpenSpec} {k : (H : Type) → List (DataW H) → Bool} (hk : s.cond = some k) {F : Stop.Interp} {conds : List PathCond} {apart fresh handsOn again : Bool} {laid : List (String × DataW Unit)}
    (own : ownKnob C.prog.godebug = none) (started : os.Started) (noInit : C.prog.inits.idxOf? f = none) (hfn : C.prog.funcs[f]? = some fn)
    (witness : ∃ (w : World) (tape : Tape) (i : Input), w.os = os ∧ (w.forCall tape i).Shaped C.prog ∧ i.vars = [] ∧ Input.okWide C.prog (w.forCall tape i) .any w.heap.size f i ∧
      s.preRow enc C.prog fn conds apart laid (w.forCall tape i).memory i.args ∧ a.holds C.prog (lone (Frame.enter C.prog f i.args .normal) [] (w.forCall tape i)))
    (contract : ∀ (W : World) (base : Nat) (args : Array Value) (ds gs : List (DataW H)) (before : List MemPlace),
      (∀ (j : Nat) t v, fn.params[j]? = some t → args[j]? = some v → Value.okWide C.prog W .any base t v) →
      DataW.Whole enc C.prog fn.params.toList s.vars apart W args.toList ds gs before → k H (ds ++ gs) = true → laidMetH C.prog laid W →
      Calls C.prog f args W fun e W' => ∃ v, e = .returned v ∧ (s.at F).post enc C.prog fn apart fresh handsOn again W args v W') :
    ReturnsInHanded a C os f .any (s.preRow enc C.prog fn conds apart laid) ((s.at F).post enc C.prog fn apart fresh handsOn again) := by
  refine returnsInHanded_of_calls own started noInit witness ?_
  intro w tape i _ _ _ hok hpre hholds
  obtain ⟨_, _, _, fn', hfn', _, _, _, _, hval⟩ := hok
  have e : fn' = fn := Option.some.inj (hfn'.symm.trans hfn)
  subst e
  obtain ⟨ds, gs, before, hw, hc, hkk⟩ := (OpenSpec.pre_some hk conds apart _ _).1 hpre.1.1
  have hw' := DataW.Whole.of_heap (w' := w.forCall tape i) (by rfl) hw
  refine (contract (w.forCall tape i) w.heap.size i.args ds gs before hval hw' hkk (hpre.1.2.of_heap (by rfl))).mono fun e W' ⟨v, he, hp⟩ => ?_
  subst he
  exact ChangeSpec.post_blind hp
section
variable {P : Program} {mem : AMem}
theorem RepM.below {ρ : Env} {w w' : World} (h : RepM ρ mem w) (b : Below w.heap.size w w') : RepM ρ mem w' ∧ Step mem ρ w mem ρ w' := h.ext b.os b.tape b.output b.size b.block
theorem Ctr.itoaS {f : FuncId} (hb : Bodied P f) (h : ∀ i : Nat, i < 100 → ∀ w : World, Calls P f #[.int .i64 i] w fun e w' => e = .returned (.string ⟨(Lib.decDigits i).toArray⟩) ∧ w' = w) {n : Nat} (hn : n < 100) :
    Ctr P f [.one (.int .i64 (n : Int))] mem (.one (.str ⟨(Lib.decDigits n).toArray⟩)) mem := by
  intro ρ w vs hm ha
  refine .inl ⟨hb, ?_⟩
  match vs, ha with
  | [v], ha =>
    have e1 : v = _ := ha.1
    subst e1
    refine (h n hn w).mono ?_
    rintro e w' ⟨rfl, rfl⟩
    exact ⟨_, ρ, rfl, rfl, hm, Step.refl _ _ _⟩
theorem all2_u64 {ρ : Env} : ∀ {zs : List Int} {xs : List Value}, All2 (VC ρ) (zs.map (CV.int .u64)) xs → xs = zs.map (Value.int .u64)
  | [], [], _ => rfl
  | z :: zs, x :: xs, h => by
    have h1 : x = .int .u64 z := h.1
    rw [List.map_cons, h1, all2_u64 h.2]
  | [], _ :: _, h => h.elim
  | _ :: _, [], h => h.elim
theorem tab_of {ρ : Env} {w : World} (hm : RepM ρ mem w) {nm : String} {g : Nat} {zs : List Int} (hg : P.globalNamed nm = some g) (hgb : gB mem g = some (zs.map (CV.int .u64))) : Lib.TabIs P w nm .u64 zs := by
  obtain ⟨c, t, z, hh, ha⟩ := gB_var hm hgb
  have e := all2_u64 ha
  unfold Lib.TabIs World.var?
  rw [hg]
  simp only [Option.bind_some, hh]
  rw [← e]
theorem Ctr.itoaA {f : FuncId} (hb : Bodied P f) {nm : String} {g : Nat} {zs : List Int} (hg : P.globalNamed nm = some g)
    (h : ∀ n : Int, -9223372036854775808 ≤ n → n ≤ 9223372036854775807 → ∀ w : World, Lib.TabIs P w nm .u64 zs → Calls P f #[.int .i64 n] w fun e w' => e = .returned (.string ⟨(Lib.itoa n).toArray⟩) ∧ ∃ k os, w' = Sort.grow (w.drewN k) os)
    (hgb : gB mem g = some (zs.map (CV.int .u64))) {n : Int} (h0 : -9223372036854775808 ≤ n) (h1 : n ≤ 9223372036854775807) :
    Ctr P f [.one (.int .i64 n)] mem (.one (.str ⟨(Lib.itoa n).toArray⟩)) mem := by
  intro ρ w vs hm ha
  refine .inl ⟨hb, ?_⟩
  match vs, ha with
  | [v], ha =>
    have e1 : v = _ := ha.1
    subst e1
    refine (h n h0 h1 w (tab_of hm hg hgb)).mono ?_
    rintro e w' ⟨rfl, k, os, rfl⟩
    obtain ⟨b1, b2⟩ := hm.ext (w' := Sort.grow (w.drewN k) os) rfl rfl rfl (by simp [Sort.grow, World.drewN]) (fun k hk => Sort.heap_grow_old _ _ hk)
    exact ⟨_, ρ, rfl, rfl, b1, b2⟩
theorem Ctr.atoiOk {f bt : FuncId} (hb : Bodied P f) (h : ∀ (s : ByteArray) (n : Int), s.size ≤ 18 → Lib.atoi s.data.toList = some n → ∀ w : World, Calls P f #[.string s] w fun e w' => e = .returned (.tuple #[.int .i64 n, .nilIface]) ∧ ∃ t, w' = Lib.bytesWorld w bt t)
    {s : ByteArray} {n : Int} (hl : s.size ≤ 18) (hn : Lib.atoi s.data.toList = some n) : Ctr P f [.one (.str s)] mem (.tup [(false, [.int .i64 n]), (false, [.nili])]) mem := by
  intro ρ w vs hm ha
  refine .inl ⟨hb, ?_⟩
  match vs, ha with
  | [v], ha =>
    have e1 : v = _ := ha.1
    subst e1
    refine (h s n hl hn w).mono ?_
    rintro e w' ⟨rfl, t, rfl⟩
    obtain ⟨b1, b2⟩ := hm.below (Lib.bytesWorld_below w bt t)
    exact ⟨_, ρ, rfl, ⟨_, rfl, rfl, rfl, trivial⟩, b1, b2⟩
theorem Ctr.atoiErr {f : FuncId} {te tn g tp : Nat} (hb : Bodied P f) (h : ∀ s : ByteArray, s.size ≤ 18 → Lib.atoi s.data.toList = none → ∀ (ev : Value) (w : World), w.cell? ⟨g, 0, none⟩ = some ev → (ev = .nilIface ∨ ∃ te pe, ev = .iface te pe) →
      Calls P f #[.string s] w fun e w' => ∃ N, e = .returned (.tuple #[.int .i64 0, .iface te (.pointer (some ⟨N, 0, none⟩))]) ∧ w.heap.size ≤ N ∧ w'.heap[N]? = some (.cells #[.string ⟨#[65, 116, 111, 105]⟩, .string s, ev] tn (0, 0)) ∧ Below w.heap.size w w')
    (hgb : gB mem g = some [.ifj tp]) {s : ByteArray} (hl : s.size ≤ 18) (hn : Lib.atoi s.data.toList = none) : Ctr P f [.one (.str s)] mem (.tup [(false, [.int .i64 0]), (false, [.ifj te])]) mem := by
  intro ρ w vs hm ha
  refine .inl ⟨hb, ?_⟩
  match vs, ha with
  | [v], ha =>
    have e1 : v = _ := ha.1
    subst e1
    obtain ⟨c, t, z, hh, hc⟩ := gB_var hm hgb
    obtain ⟨ev, hev, x, hx⟩ : ∃ ev, w.cell? ⟨g, 0, none⟩ = some ev ∧ ∃ x, ev = .iface tp x := by
      obtain ⟨v, hv, hr⟩ := hc.get (i := 0) (a := .ifj tp) rfl
      refine ⟨v, ?_, hr⟩
      unfold World.cell?
      rw [hh]
      simpa using hv
    refine (h s hl hn ev w hev (.inr ⟨tp, x, hx⟩)).mono ?_
    rintro e w' ⟨N, rfl, _, _, hbl⟩
    obtain ⟨b1, b2⟩ := hm.below hbl
    exact ⟨_, ρ, rfl, ⟨_, rfl, rfl, ⟨_, rfl⟩, trivial⟩, b1, b2⟩
/-- The first place of a byte. -/
def idxI (xs : List Int) (c : Int) : Int := Lib.indexByte (Lib.bytesOf xs) c.toNat.toUInt8
theorem all2_u8 {ρ : Env} : ∀ {zs : List Int} {xs : List Value}, All2 (VC ρ) (zs.map (CV.int .u8)) xs → xs = zs.map (Value.int .u8)
  | [], [], _ => rfl
  | z :: zs, x :: xs, h => by
    have h1 : x = .int .u8 z := h.1
    rw [List.map_cons, h1, all2_u8 h.2]
  | [], _ :: _, h => h.elim
  | _ :: _, [], h => h.elim
theorem indexByte_x {f : FuncId} {fn : Func} (hf : P.funcs[f]? = some fn) (hname : (fn.name == "runtime.NumGoroutine") = false) (hb : fn.body.isNone = true) (hn : Extern.findNext fn = none) (he : Extern.find fn = some Extern.BytealgIndexByte.indexByte)
    {r v off n : Nat} {xs : List Int} (hs : srcA 1 (.one (.sl r v off n)) mem = some (n, xs.map (CV.int .u8))) (c : Int) :
    Ctr P f [.one (.sl r v off n), .one (.int .u8 c)] mem (.one (.int .i64 (idxI xs c))) mem :=
  Ctr.extern hf hname hb hn he fun ρ w vs hm ha => by
    match vs, ha with
    | [u, y], ha =>
      have e2 : y = _ := ha.2.1
      subst e2
      obtain ⟨A, k, us, rfl, hlc, hus, hlen, hA, hcell⟩ := srcA_sound hm hs ha.1
      have e := all2_u8 hus
      subst e
      cases A with
      | none =>
        have hn0 := hA rfl
        subst hn0
        have hx : xs = [] := List.eq_nil_of_length_eq_zero (by simpa using hlen)
        subst hx
        exact ⟨_, w, ρ, Lib.run_indexByteNil w 0 k c, rfl, hm, Step.refl _ _ _⟩
      | some a =>
        refine ⟨_, w, ρ, Lib.run_indexByteAt w a n k xs (by simpa using hlen) (fun i hi => ?_) c, rfl, hm, Step.refl _ _ _⟩
        refine hcell a rfl i _ ?_
        have hil : i < xs.length := by simp at hlen; omega
        rw [List.getElem?_map, List.getD_eq_getElem?_getD, List.getElem?_eq_getElem hil]
        rfl
end
end Go.Eng

set_option linter.unusedSimpArgs false
set_option linter.unusedVariables false
set_option maxRecDepth 100000
set_option maxHeartbeats 4000000
namespace Go.Proofs.YtbigijnadkeecaaDoor
open Go Go.Eng

/-- Bytes as numbers, and their cells. -/
def bI (l : List UInt8) : List Int := l.map fun b => ((b.toNat : Nat) : Int)
def u8c (xs : List Int) : List CV := xs.map (CV.int .u8)
theorem u8c_len (xs : List Int) : (u8c xs).length = xs.length := List.length_map _
theorem u8c_app (a b : List Int) : u8c a ++ u8c b = u8c (a ++ b) := List.map_append.symm
theorem u8c_below (L : Nat) : ∀ xs : List Int, (u8c xs).all (CV.below L) = true
  | [] => rfl
  | x :: xs => by
    show (CV.int .u8 x :: u8c xs).all _ = true
    rw [List.all_cons, u8c_below L xs]; rfl
theorem u8c_vals : ∀ xs : List Int, (u8c xs).all CV.isVal = true
  | [] => rfl
  | x :: xs => by
    show (CV.int .u8 x :: u8c xs).all _ = true
    rw [List.all_cons, u8c_vals xs]; rfl
theorem bI_app (a b : List UInt8) : bI (a ++ b) = bI a ++ bI b := List.map_append
theorem strC_bI (l : List UInt8) : strC ⟨l.toArray⟩ = u8c (bI l) := by
  unfold strC u8c bI
  simp
theorem str_app (a b : List UInt8) : (⟨a.toArray⟩ : ByteArray) ++ ⟨b.toArray⟩ = ⟨(a ++ b).toArray⟩ := by
  apply ByteArray.ext
  simp
theorem str_size (a : List UInt8) : (⟨a.toArray⟩ : ByteArray).size = a.length := rfl
def hdB (w h : Nat) : List UInt8 := [80, 54, 10] ++ (Lib.decDigits w ++ ([32] ++ (Lib.decDigits h ++ [10, 50, 53, 53, 10])))
def hdI (w h : Nat) : List Int := bI (hdB w h)
theorem dec_len {n : Nat} (h : n < 100) : 1 ≤ (Lib.decDigits n).length ∧ (Lib.decDigits n).length ≤ 2 := by
  unfold Lib.decDigits
  split
  · simp
  · unfold Lib.decDigits
    rw [dif_pos (by omega)]; simp
theorem hdB_len {w h : Nat} (hw : w < 100) (hh : h < 100) : 11 ≤ (hdB w h).length ∧ (hdB w h).length ≤ 13 := by
  have h1 := dec_len hw
  have h2 := dec_len hh
  unfold hdB
  simp only [List.length_append, List.length_cons, List.length_nil]
  omega
theorem hdI_len (w h : Nat) : (hdI w h).length = (hdB w h).length := List.length_map _
theorem itoa_c (n : Nat) (hn : n < 100) (m : AMem) : Ctr Tryd.prog 62 [.one (.int .i64 (n : Int))] m (.one (.str ⟨(Lib.decDigits n).toArray⟩)) m := Ctr.itoaS ⟨_, rfl, rfl, rfl⟩ (fun i hi w => Tryd.strconv_Itoa_small i hi w) hn
theorem head_c (w h : Nat) (c0 : CV) (hw : w < 100) (hh : h < 100) (m : AMem) : Ctr Tryd.prog 47 [.agg [.int .i64 (w : Int), .int .i64 (h : Int), c0]] m (.one (.sl m.length 0 0 (hdI w h).length)) (m ++ [⟨.grow, 5, 0, 0, u8c (hdI w h)⟩]) := by
  refine Ctr.enter Tryd.func47 rfl (by decide) (rs := [.tmp 2]) (nt := 16) rfl rfl fun hwf Q hQ => ?_
  have hlt0 : ∀ k, ¬ m.length + k < m.length := fun k => by omega
  have l1 := dec_len hw
  have l2 := dec_len hh
  obtain ⟨S1, e1⟩ : ∃ S : List UInt8, S = [80, 54, 10] ++ Lib.decDigits w := ⟨_, rfl⟩
  obtain ⟨S2, e2⟩ : ∃ S : List UInt8, S = S1 ++ [32] := ⟨_, rfl⟩
  obtain ⟨S3, e3⟩ : ∃ S : List UInt8, S = S2 ++ Lib.decDigits h := ⟨_, rfl⟩
  obtain ⟨S4, e4⟩ : ∃ S : List UInt8, S = S3 ++ [10, 50, 53, 53, 10] := ⟨_, rfl⟩
  have e5 : S4 = hdB w h := by rw [e4, e3, e2, e1]; unfold hdB; simp only [List.append_assoc]
  have f1 : (⟨#[80, 54, 10]⟩ : ByteArray) ++ ⟨(Lib.decDigits w).toArray⟩ = ⟨S1.toArray⟩ := by rw [e1]; exact str_app [80, 54, 10] _
  have f2 : (⟨S1.toArray⟩ : ByteArray) ++ ⟨#[32]⟩ = ⟨S2.toArray⟩ := by rw [e2]; exact str_app _ [32]
  have f3 : (⟨S2.toArray⟩ : ByteArray) ++ ⟨(Lib.decDigits h).toArray⟩ = ⟨S3.toArray⟩ := by rw [e3]; exact str_app _ _
  have f4 : (⟨S3.toArray⟩ : ByteArray) ++ ⟨#[10, 50, 53, 53, 10]⟩ = ⟨S4.toArray⟩ := by rw [e4]; exact str_app _ [10, 50, 53, 53, 10]
  have g1 : S1.length = 3 + (Lib.decDigits w).length := by rw [e1, List.length_append]; rfl
  have g2 : S2.length = S1.length + 1 := by rw [e2, List.length_append]; rfl
  have g3 : S3.length = S2.length + (Lib.decDigits h).length := by rw [e3, List.length_append]
  have g4 : S4.length = S3.length + 5 := by rw [e4, List.length_append]; rfl
  have q1 : 3 + (Lib.decDigits w).length ≤ 9223372036854775807 := by omega
  have q2 : S1.length + 1 ≤ 9223372036854775807 := by omega
  have q3 : S2.length + (Lib.decDigits h).length ≤ 9223372036854775807 := by omega
  have q4 : S3.length + 5 ≤ 9223372036854775807 := by omega
  have q5 : S4.length ≤ 140737488355328 := by omega
  have hsc : strC ⟨S4.toArray⟩ = u8c (hdI w h) := by rw [e5]; exact strC_bI _
  have hln : S4.length = (hdI w h).length := by rw [e5, hdI_len]
  refine AW.seq_k fun K hK => ?_
  refine AW.region (by decide) ?_
  simp only [push_cast, simprocAttr, f1, f2, f3, f4, str_size, q1, q2, q3, q4, q5, hsc]
  refine Thn_n ?_
  refine hK _ _ ?_
  clear hK K
  refine AW.seq_k fun K hK => ?_
  refine AW.draw [.val, .val, .rd 0, .ext, .val, .val, .val, .val, .rd 0, .ext, .val, .val, .ext, .val] fol (by decide) (by kernel_rfl) ?_
  simp only [push_cast, simprocAttr, f1, f2, f3, f4, str_size, q1, q2, q3, q4, q5, hsc]
  refine DCall.by0 (itoa_c w hw _) ?_
  simp only [push_cast, simprocAttr, f1, f2, f3, f4, str_size, q1, q2, q3, q4, q5, hsc]
  refine DCall.by0 (itoa_c h hh _) ?_
  simp only [push_cast, simprocAttr, f1, f2, f3, f4, str_size, q1, q2, q3, q4, q5, hsc]
  refine DExt.by (by first | rfl | exact (List.append_nil _).symm | (simp only [List.append_assoc, List.cons_append, List.nil_append]; rfl)) ?_
  simp only [push_cast, simprocAttr, f1, f2, f3, f4, str_size, q1, q2, q3, q4, q5, hsc]
  refine Thn_n ?_
  refine hK _ _ ?_
  clear hK K
  refine AW.ret ?_
  refine hQ _ _ _ ?_
  refine RetP.pick [(m.length + 1, 0)] (Or.inr rfl) ?_ ?_ ?_ hwf ?_
  · simp only [resA, resOne, resTv, AV.tv, push_cast, simprocAttr]
    simp [renV, renT, renL, renC, renIdx, hlt0, hln]
  · simp only [picks, push_cast, simprocAttr]
  · simp [distinctFrom]
  · exact MWf_one (u8c_below _ _)
end Go.Proofs.YtbigijnadkeecaaDoor

set_option linter.unusedSimpArgs false
set_option linter.unusedVariables false
set_option maxRecDepth 100000
set_option maxHeartbeats 4000000
namespace Go.Proofs.YtbigijnadkeecaaDoor
open Go Go.Eng

theorem strB_one (n : Nat) : strB [(n : Int)] = ⟨([UInt8.ofNat n] : List UInt8).toArray⟩ := rfl
theorem wu64 {x : Int} (h : 0 ≤ x ∧ x ≤ 4294967296) : IntKind.u64.wrap x = x := by
  unfold IntKind.wrap
  simp [IntKind.signed, IntKind.bits]
  omega
theorem wu8 {x : Int} (h : 0 ≤ x ∧ x ≤ 255) : IntKind.u8.wrap x = x := by
  unfold IntKind.wrap
  simp [IntKind.signed, IntKind.bits]
  omega
theorem dec_lo {n : Nat} (h : n < 10) : Lib.decDigits n = [UInt8.ofNat (48 + n)] := by
  unfold Lib.decDigits; rw [dif_pos h]
theorem dec_hi {n : Nat} (h : ¬ n < 10) (h2 : n < 100) : Lib.decDigits n = [UInt8.ofNat (48 + n / 10)] ++ [UInt8.ofNat (48 + n % 10)] := by
  rw [Lib.decDigits, dif_neg h, dec_lo (by omega)]
theorem rdec_lo (n : Nat) (hn : n < 10) (m : AMem) : Ctr Tryd.prog 63 [.one (.int .u64 (n : Int))] m (.one (.str ⟨(Lib.decDigits n).toArray⟩)) m := by
  refine Ctr.enter Tryd.func63 rfl (by decide) (rs := [.tmp 2]) (nt := 23) rfl rfl fun hwf Q hQ => ?_
  have w1 : ¬ (9 : Int) < (n : Int) := by omega
  have w2 : IntKind.u64.wrap (48 + (n : Int)) = ((48 + n : Nat) : Int) := by rw [wu64 (by omega)]; push_cast; rfl
  obtain ⟨z, hz⟩ : ∃ z, z = 48 + n := ⟨_, rfl⟩
  rw [← hz] at w2
  have w3 : IntKind.u8.wrap (z : Int) = (z : Int) := wu8 (by omega)
  have s1 := strB_one z
  have s2 : (⟨[UInt8.ofNat z].toArray⟩ : ByteArray) ++ ⟨#[]⟩ = ⟨(Lib.decDigits n).toArray⟩ := by
    rw [dec_lo hn, ← hz]; exact str_app [UInt8.ofNat z] []
  iterate 2
    refine AW.seq_k fun K hK => ?_
    refine AW.region (by decide) ?_
    simp only [push_cast, simprocAttr, w1, w2, w3, s1, s2, str_size]
    refine Thn_n ?_
    refine hK _ _ ?_
    clear hK K
  refine AW.seq_k fun K hK => ?_
  refine AW.block ?_
  refine AW.rounds 1 ?_
  refine ARounds.succ fun K hK => ?_
  refine AW.seq_k fun K hK => ?_
  refine AW.seq_k fun K hK => ?_
  refine AW.region (by decide) ?_
  simp only [push_cast, simprocAttr, w1, w2, w3, s1, s2, str_size]
  refine Thn_n ?_
  refine hK _ _ ?_
  clear hK K
  refine AW.cond_f rfl ?_
  refine AW.exit ?_
  refine Thn_e ?_
  clear hK K
  refine Thn_e ?_
  clear hK K
  refine InB_here ?_
  refine Thn_n ?_
  refine hK _ _ ?_
  clear hK K
  refine AW.seq_k fun K hK => ?_
  refine AW.region (by decide) ?_
  simp only [push_cast, simprocAttr, w1, w2, w3, s1, s2, str_size]
  refine Thn_n ?_
  refine hK _ _ ?_
  clear hK K
  refine AW.ret ?_
  refine hQ _ _ _ ?_
  first | refine RetP.drop0 (Or.inr rfl) ?_ ?_ hwf | refine RetP.drop (Or.inr rfl) ?_ ?_ hwf
  · simp only [resA, resOne, resTv, AV.tv, push_cast, simprocAttr, w1, w2, w3, s1, s2, str_size]
  · rfl
theorem rdec_hi (n : Nat) (hn : ¬ n < 10) (hn2 : n < 100) (m : AMem) : Ctr Tryd.prog 63 [.one (.int .u64 (n : Int))] m (.one (.str ⟨(Lib.decDigits n).toArray⟩)) m := by
  refine Ctr.enter Tryd.func63 rfl (by decide) (rs := [.tmp 2]) (nt := 23) rfl rfl fun hwf Q hQ => ?_
  have w1 : (9 : Int) < (n : Int) := by omega
  obtain ⟨a, ha⟩ : ∃ a, a = n / 10 := ⟨_, rfl⟩
  obtain ⟨b, hb⟩ : ∃ b, b = n % 10 := ⟨_, rfl⟩
  have d1 : (n : Int).tmod 10 = (b : Int) := by rw [Int.tmod_eq_emod_of_nonneg (by omega), hb]; push_cast; rfl
  have d2 : (n : Int).tdiv 10 = (a : Int) := by rw [Int.tdiv_eq_ediv_of_nonneg (by omega), ha]; push_cast; rfl
  have d3 : IntKind.u64.wrap (b : Int) = (b : Int) := wu64 (by omega)
  have d4 : IntKind.u64.wrap (a : Int) = (a : Int) := wu64 (by omega)
  have w4 : ¬ (9 : Int) < (a : Int) := by omega
  obtain ⟨y, hy⟩ : ∃ y, y = 48 + a := ⟨_, rfl⟩
  obtain ⟨z, hz⟩ : ∃ z, z = 48 + b := ⟨_, rfl⟩
  have w2 : IntKind.u64.wrap (48 + (b : Int)) = (z : Int) := by rw [wu64 (by omega)]; omega
  have w5 : IntKind.u64.wrap (48 + (a : Int)) = (y : Int) := by rw [wu64 (by omega)]; omega
  have w3 : IntKind.u8.wrap (z : Int) = (z : Int) := wu8 (by omega)
  have w6 : IntKind.u8.wrap (y : Int) = (y : Int) := wu8 (by omega)
  have s1 := strB_one z
  have s2 := strB_one y
  have s3 : (⟨[UInt8.ofNat z].toArray⟩ : ByteArray) ++ ⟨#[]⟩ = ⟨[UInt8.ofNat z].toArray⟩ := str_app [UInt8.ofNat z] []
  have s4 : (⟨[UInt8.ofNat y].toArray⟩ : ByteArray) ++ ⟨[UInt8.ofNat z].toArray⟩ = ⟨(Lib.decDigits n).toArray⟩ := by
    rw [dec_hi hn hn2, ← ha, ← hb, ← hz, ← hy]; exact str_app [UInt8.ofNat y] [UInt8.ofNat z]
  iterate 2
    refine AW.seq_k fun K hK => ?_
    refine AW.region (by decide) ?_
    simp only [push_cast, simprocAttr, w1, w2, w3, w4, w5, w6, d1, d2, d3, d4, s1, s2, s3, s4, str_size]
    refine Thn_n ?_
    refine hK _ _ ?_
    clear hK K
  refine AW.seq_k fun K hK => ?_
  refine AW.block ?_
  refine AW.rounds 2 ?_
  refine ARounds.succ fun K hK => ?_
  refine AW.seq_k fun K hK => ?_
  refine AW.seq_k fun K hK => ?_
  refine AW.region (by decide) ?_
  simp only [push_cast, simprocAttr, w1, w2, w3, w4, w5, w6, d1, d2, d3, d4, s1, s2, s3, s4, str_size]
  refine Thn_n ?_
  refine hK _ _ ?_
  clear hK K
  refine AW.cond_t rfl ?_
  refine AW.skip ?_
  refine Thn_n ?_
  refine hK _ _ ?_
  clear hK K
  refine AW.block ?_
  refine AW.seq_k fun K hK => ?_
  refine AW.region (by decide) ?_
  simp only [push_cast, simprocAttr, w1, w2, w3, w4, w5, w6, d1, d2, d3, d4, s1, s2, s3, s4, str_size]
  refine Thn_n ?_
  refine hK _ _ ?_
  clear hK K
  refine AW.region (by decide) ?_
  simp only [push_cast, simprocAttr, w1, w2, w3, w4, w5, w6, d1, d2, d3, d4, s1, s2, s3, s4, str_size]
  refine InB_n ?_
  refine Thn_n ?_
  refine hK _ _ ?_
  clear hK K
  refine ARounds.succ fun K hK => ?_
  refine AW.seq_k fun K hK => ?_
  refine AW.seq_k fun K hK => ?_
  refine AW.region (by decide) ?_
  simp only [push_cast, simprocAttr, w1, w2, w3, w4, w5, w6, d1, d2, d3, d4, s1, s2, s3, s4, str_size]
  refine Thn_n ?_
  refine hK _ _ ?_
  clear hK K
  refine AW.cond_f rfl ?_
  refine AW.exit ?_
  refine Thn_e ?_
  clear hK K
  refine Thn_e ?_
  clear hK K
  refine InB_here ?_
  refine Thn_n ?_
  refine hK _ _ ?_
  clear hK K
  refine AW.seq_k fun K hK => ?_
  refine AW.region (by decide) ?_
  simp only [push_cast, simprocAttr, w1, w2, w3, w4, w5, w6, d1, d2, d3, d4, s1, s2, s3, s4, str_size]
  refine Thn_n ?_
  refine hK _ _ ?_
  clear hK K
  refine AW.ret ?_
  refine hQ _ _ _ ?_
  first | refine RetP.drop0 (Or.inr rfl) ?_ ?_ hwf | refine RetP.drop (Or.inr rfl) ?_ ?_ hwf
  · simp only [resA, resOne, resTv, AV.tv, push_cast, simprocAttr, w1, w2, w3, w4, w5, w6, d1, d2, d3, d4, s1, s2, s3, s4, str_size]
  · rfl
theorem rdec_c (n : Nat) (hn : n < 100) (m : AMem) : Ctr Tryd.prog 63 [.one (.int .u64 (n : Int))] m (.one (.str ⟨(Lib.decDigits n).toArray⟩)) m := by
  by_cases h : n < 10
  · exact rdec_lo n h m
  · exact rdec_hi n h hn m
theorem rhead_c (w h : Nat) (hw : w < 100) (hh : h < 100) (m : AMem) : Ctr Tryd.prog 48 [.one (.int .i64 (w : Int)), .one (.int .i64 (h : Int))] m (.one (.sl m.length 0 0 (hdI w h).length)) (m ++ [⟨.grow, 5, 0, 0, u8c (hdI w h)⟩]) := by
  refine Ctr.enter Tryd.func48 rfl (by decide) (rs := [.tmp 4]) (nt := 16) rfl rfl fun hwf Q hQ => ?_
  have hlt0 : ∀ k, ¬ m.length + k < m.length := fun k => by omega
  have l1 := dec_len hw
  have l2 := dec_len hh
  obtain ⟨S1, e1⟩ : ∃ S : List UInt8, S = [80, 54, 10] ++ Lib.decDigits w := ⟨_, rfl⟩
  obtain ⟨S2, e2⟩ : ∃ S : List UInt8, S = S1 ++ [32] := ⟨_, rfl⟩
  obtain ⟨S3, e3⟩ : ∃ S : List UInt8, S = S2 ++ Lib.decDigits h := ⟨_, rfl⟩
  obtain ⟨S4, e4⟩ : ∃ S : List UInt8, S = S3 ++ [10, 50, 53, 53, 10] := ⟨_, rfl⟩
  have e5 : S4 = hdB w h := by rw [e4, e3, e2, e1]; unfold hdB; simp only [List.append_assoc]
  have f1 : (⟨#[80, 54, 10]⟩ : ByteArray) ++ ⟨(Lib.decDigits w).toArray⟩ = ⟨S1.toArray⟩ := by rw [e1]; exact str_app [80, 54, 10] _
  have f2 : (⟨S1.toArray⟩ : ByteArray) ++ ⟨#[32]⟩ = ⟨S2.toArray⟩ := by rw [e2]; exact str_app _ [32]
  have f3 : (⟨S2.toArray⟩ : ByteArray) ++ ⟨(Lib.decDigits h).toArray⟩ = ⟨S3.toArray⟩ := by rw [e3]; exact str_app _ _
  have f4 : (⟨S3.toArray⟩ : ByteArray) ++ ⟨#[10, 50, 53, 53, 10]⟩ = ⟨S4.toArray⟩ := by rw [e4]; exact str_app _ [10, 50, 53, 53, 10]
  have g1 : S1.length = 3 + (Lib.decDigits w).length := by rw [e1, List.length_append]; rfl
  have g2 : S2.length = S1.length + 1 := by rw [e2, List.length_append]; rfl
  have g3 : S3.length = S2.length + (Lib.decDigits h).length := by rw [e3, List.length_append]
  have g4 : S4.length = S3.length + 5 := by rw [e4, List.length_append]; rfl
  have q1 : 3 + (Lib.decDigits w).length ≤ 9223372036854775807 := by omega
  have q2 : S1.length + 1 ≤ 9223372036854775807 := by omega
  have q3 : S2.length + (Lib.decDigits h).length ≤ 9223372036854775807 := by omega
  have q4 : S3.length + 5 ≤ 9223372036854775807 := by omega
  have q5 : S4.length ≤ 140737488355328 := by omega
  have hsc : strC ⟨S4.toArray⟩ = u8c (hdI w h) := by rw [e5]; exact strC_bI _
  have hln : S4.length = (hdI w h).length := by rw [e5, hdI_len]
  have u1 : IntKind.u64.wrap (w : Int) = (w : Int) := wu64 (by omega)
  have u2 : IntKind.u64.wrap (h : Int) = (h : Int) := wu64 (by omega)
  refine AW.seq_k fun K hK => ?_
  refine AW.region (by decide) ?_
  simp only [push_cast, simprocAttr, f1, f2, f3, f4, str_size, q1, q2, q3, q4, q5, hsc, u1, u2]
  refine Thn_n ?_
  refine hK _ _ ?_
  clear hK K
  refine AW.seq_k fun K hK => ?_
  refine AW.region (by decide) ?_
  simp only [push_cast, simprocAttr, f1, f2, f3, f4, str_size, q1, q2, q3, q4, q5, hsc, u1, u2]
  refine CThen.by (rdec_c w hw _) ?_
  simp only [push_cast, simprocAttr, f1, f2, f3, f4, str_size, q1, q2, q3, q4, q5, hsc, u1, u2]
  refine CThen.by (rdec_c h hh _) ?_
  simp only [push_cast, simprocAttr, f1, f2, f3, f4, str_size, q1, q2, q3, q4, q5, hsc, u1, u2]
  refine Thn_n ?_
  refine hK _ _ ?_
  clear hK K
  refine AW.ret ?_
  refine hQ _ _ _ ?_
  refine RetP.pick [(m.length, 0)] (Or.inr rfl) ?_ ?_ ?_ hwf ?_
  · simp only [resA, resOne, resTv, AV.tv, push_cast, simprocAttr]
    simp [renV, renT, renL, renC, renIdx, hlt0, hln]
  · simp only [picks, push_cast, simprocAttr]
  · simp [distinctFrom]
  · exact MWf_one (u8c_below _ _)
end Go.Proofs.YtbigijnadkeecaaDoor
