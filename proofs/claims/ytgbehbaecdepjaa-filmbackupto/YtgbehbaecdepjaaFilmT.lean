/- Walks and facts of this seat's program over abstract states, printed by a program of mine; no conditions but those that each theorem names. -/
import Derived.Test.YtgbehbaecdepjaaFilmS
set_option linter.unusedSimpArgs false
set_option linter.unusedVariables false
set_option maxRecDepth 100000
set_option maxHeartbeats 4000000
namespace Go.Proofs.Ytgbehbaecdepjaa
open Go Go.Eng

def heldI (n : Int) : Int := if 2147483648 < n then 2147483648 else if n < -2147483648 then -2147483648 else n
theorem held_b (n : Int) : okN (heldI n) := by unfold heldI okN; split <;> (try split) <;> omega
theorem held_id {n : Int} (h : okN n) : heldI n = n := by unfold okN at h; unfold heldI; split <;> (try split) <;> omega
theorem held_t {x : Int} (h : (x != heldI x) = true) : ¬ okN x := fun ho => by rw [held_id ho] at h; simp at h
theorem held_f {x : Int} (h : (x != heldI x) = false) : okN x := by
  have e : x = heldI x := by simpa using h
  rw [e]; exact held_b _
theorem three {P : Nat → Prop} (h0 : P 0) (h1 : P 1) (h2 : P 2) : ∀ k, k < 3 → P k
  | 0, _ => h0
  | 1, _ => h1
  | 2, _ => h2
theorem upTo {P : Nat → Prop} {i : Nat} (h : ∀ j, j < i → P j) (hi : P i) : ∀ j, j < i + 1 → P j := fun j hj => by
  rcases Nat.lt_or_ge j i with h1 | h1
  · exact h j h1
  · rw [show j = i by omega]; exact hi
theorem held_c (n : Int) (m : AMem) : Ctr Try.prog 58 [.one (.int .i64 n)] m (.one (.int .i64 (heldI n))) m := by
  refine Ctr.enter Try.func58 rfl (by decide) (rs := [.tmp 2]) (nt := 8) rfl rfl fun hwf Q hQ => ?_
  refine AW.seq_k fun K hK => ?_
  refine AW.region (by decide) ?_
  simp only [push_cast, simprocAttr]
  refine Thn_n ?_
  refine hK _ _ ?_
  clear hK K
  refine AW.seq_k fun K hK => ?_
  refine AW.seq_k fun K hK => ?_
  refine AW.region (by decide) ?_
  simp only [push_cast, simprocAttr]
  refine Thn_n ?_
  refine hK _ _ ?_
  clear hK K
  refine AW.cond rfl (fun h4 => ?_) (fun h4 => ?_)
  · have hr : heldI n = 2147483648 := by have := of_decide_eq_true h4; unfold heldI; rw [if_pos this]
    refine AW.seq_k fun K hK => ?_
    refine AW.region (by decide) ?_
    simp only [push_cast, simprocAttr]
    refine Thn_n ?_
    refine hK _ _ ?_
    clear hK K
    refine AW.ret ?_
    refine Thn_r ?_
    refine hQ _ _ _ ?_
    first | refine RetP.drop0 (Or.inr rfl) ?_ ?_ hwf | refine RetP.drop (Or.inr rfl) ?_ ?_ hwf
    · simp only [resA, resOne, resTv, AV.tv, push_cast, simprocAttr, hr]
    · rfl
  · refine AW.skip ?_
    refine Thn_n ?_
    refine hK _ _ ?_
    clear hK K
    refine AW.seq_k fun K hK => ?_
    refine AW.seq_k fun K hK => ?_
    refine AW.region (by decide) ?_
    simp only [push_cast, simprocAttr]
    refine Thn_n ?_
    refine hK _ _ ?_
    clear hK K
    refine AW.cond rfl (fun h6 => ?_) (fun h6 => ?_)
    · have hr : heldI n = -2147483648 := by have h0 := of_decide_eq_false h4; have := of_decide_eq_true h6; unfold heldI; rw [if_neg h0, if_pos this]
      refine AW.seq_k fun K hK => ?_
      refine AW.region (by decide) ?_
      simp only [push_cast, simprocAttr]
      refine Thn_n ?_
      refine hK _ _ ?_
      clear hK K
      refine AW.ret ?_
      refine Thn_r ?_
      refine hQ _ _ _ ?_
      first | refine RetP.drop0 (Or.inr rfl) ?_ ?_ hwf | refine RetP.drop (Or.inr rfl) ?_ ?_ hwf
      · simp only [resA, resOne, resTv, AV.tv, push_cast, simprocAttr, hr]
      · rfl
    · have hr : heldI n = n := by have h0 := of_decide_eq_false h4; have := of_decide_eq_false h6; unfold heldI; rw [if_neg h0, if_neg this]
      refine AW.skip ?_
      refine Thn_n ?_
      refine hK _ _ ?_
      clear hK K
      refine AW.seq_k fun K hK => ?_
      refine AW.region (by decide) ?_
      simp only [push_cast, simprocAttr]
      refine Thn_n ?_
      refine hK _ _ ?_
      clear hK K
      refine AW.ret ?_
      refine hQ _ _ _ ?_
      first | refine RetP.drop0 (Or.inr rfl) ?_ ?_ hwf | refine RetP.drop (Or.inr rfl) ?_ ?_ hwf
      · simp only [resA, resOne, resTv, AV.tv, push_cast, simprocAttr, hr]
      · rfl
theorem heldF_c (W H : Int) (rL nL rD nD rN nN rB nB rS nS rF nF : Nat) (GL GN GB : Nat → Nat → Int) (fD fS fF : Nat → Int) (m : AMem) (pL : HRow m 75 rL nL GL) (pD : IRow m 2 rD nD fD) (pN : HRow m 71 rN nN GN) (pB : HRow m 75 rB nB GB) (pS : IRow m 3 rS nS fS) (pF : IRow m 3 rF nF fF) (bL : nL ≤ 1048576) (bD : nD ≤ 1048576) (bN : nN ≤ 1048576) (bB : nB ≤ 1048576) (bS : nS ≤ 1048576) (bF : nF ≤ 1048576) (b : Bool) (hb : b = true ↔ HeldP nL nD nN nB GL GN GB fD) : Ctr Try.prog 28 [.agg [.int .i64 W, .int .i64 H, .sl rL 0 0 nL, .sl rD 0 0 nD, .sl rN 0 0 nN, .sl rB 0 0 nB, .sl rS 0 0 nS, .sl rF 0 0 nF]] m (.one (.bool b)) m := by
  refine Ctr.enter Try.func28 rfl (by decide) (rs := [.tmp 2]) (nt := 70) rfl rfl fun hwf Q hQ => ?_
  obtain ⟨kL, eL, hLb⟩ := pL.hb
  have lL := get_lt hLb
  obtain ⟨kD, eD, hDb⟩ := pD.hb
  have lD := get_lt hDb
  obtain ⟨kN, eN, hNb⟩ := pN.hb
  have lN := get_lt hNb
  obtain ⟨kB, eB, hBb⟩ := pB.hb
  have lB := get_lt hBb
  obtain ⟨kS, eS, hSb⟩ := pS.hb
  have lS := get_lt hSb
  obtain ⟨kF, eF, hFb⟩ := pF.hb
  have lF := get_lt hFb
  
  refine AW.seq_k fun K hK => ?_
  refine AW.region (by decide) ?_
  simp only [push_cast, simprocAttr, hLb, lk_old hLb, hDb, lk_old hDb, hNb, lk_old hNb, hBb, lk_old hBb, hSb, lk_old hSb, hFb, lk_old hFb, dl_len, il_len]
  refine Thn_n ?_
  refine hK _ _ ?_
  clear hK K
  refine AW.seq_k fun K hK => ?_
  refine AW.seq_k fun K hK => ?_
  refine AW.region (by decide) ?_
  simp only [push_cast, simprocAttr, hLb, lk_old hLb, hDb, lk_old hDb, hNb, lk_old hNb, hBb, lk_old hBb, hSb, lk_old hSb, hFb, lk_old hFb, dl_len, il_len]
  refine Thn_n ?_
  refine hK _ _ ?_
  clear hK K
  refine AW.block ?_
  refine AW.loopK [1, 16, 17] (fun i => i ≤ nD ∧ ∀ j, j < i → okN (fD j)) (fun i => [(18, .one (.int .i64 (i : Int)))]) (fun i => []) (fun i => nD - i) 0 ⟨by omega, fun j hj => by omega⟩ ?_ ?_ fun i hi4 => ?_
  · first | rfl | (simp only [Keeps, Tm.get_cons, Nat.reduceEqDiff, ↓reduceIte, if_true, if_false, ite_true, ite_false, true_and, and_true, and_self, reduceCtorEq] <;> rfl)
  · first | rfl | (simp only [setAll, push_cast, simprocAttr, hLb, lk_old hLb, hDb, lk_old hDb, hNb, lk_old hNb, hBb, lk_old hBb, hSb, lk_old hSb, hFb, lk_old hFb, dl_len, il_len] <;> rfl)
  obtain ⟨hiN, hD⟩ := hi4
  try simp only [keepL, setAll, push_cast, simprocAttr, hLb, lk_old hLb, hDb, lk_old hDb, hNb, lk_old hNb, hBb, lk_old hBb, hSb, lk_old hSb, hFb, lk_old hFb, dl_len, il_len]
  refine AW.seq_k fun K hK => ?_
  refine AW.region (by decide) ?_
  simp only [push_cast, simprocAttr, hLb, lk_old hLb, hDb, lk_old hDb, hNb, lk_old hNb, hBb, lk_old hBb, hSb, lk_old hSb, hFb, lk_old hFb, dl_len, il_len]
  refine Thn_n ?_
  refine hK _ _ ?_
  clear hK K
  refine AW.seq_k fun K hK => ?_
  refine AW.cond rfl (fun h19 => ?_) (fun h19 => ?_)
  · have hlt : i < nD := by have := of_decide_eq_true h19; omega
    have c1 : (0 : Int) ≤ (i : Int) := by omega
    have c2 : (i : Int) < (nD : Int) := by omega
    have g := il_get (f := fD) hlt
    refine AW.skip ?_
    refine Thn_n ?_
    refine hK _ _ ?_
    clear hK K
    refine AW.seq_k fun K hK => ?_
    refine AW.block ?_
    refine AW.seq_k fun K hK => ?_
    refine AW.region (by decide) ?_
    simp only [push_cast, simprocAttr, hLb, lk_old hLb, hDb, lk_old hDb, hNb, lk_old hNb, hBb, lk_old hBb, hSb, lk_old hSb, hFb, lk_old hFb, dl_len, il_len, c1, c2, g]
    refine Thn_n ?_
    refine hK _ _ ?_
    clear hK K
    refine AW.seq_k fun K hK => ?_
    refine AW.region (by decide) ?_
    simp only [push_cast, simprocAttr, hLb, lk_old hLb, hDb, lk_old hDb, hNb, lk_old hNb, hBb, lk_old hBb, hSb, lk_old hSb, hFb, lk_old hFb, dl_len, il_len, c1, c2, g]
    refine CThen.by (held_c _ _) ?_
    simp only [push_cast, simprocAttr, hLb, lk_old hLb, hDb, lk_old hDb, hNb, lk_old hNb, hBb, lk_old hBb, hSb, lk_old hSb, hFb, lk_old hFb, dl_len, il_len, c1, c2, g]
    refine Thn_n ?_
    refine hK _ _ ?_
    clear hK K
    refine AW.cond rfl (fun h25 => ?_) (fun h25 => ?_)
    · have hno := held_t h25
      have hr : b = false := by
        cases hq : b
        · rfl
        · exact absurd ((hb.1 hq).d i hlt) hno
      refine AW.seq_k fun K hK => ?_
      refine AW.region (by decide) ?_
      simp only [push_cast, simprocAttr, hLb, lk_old hLb, hDb, lk_old hDb, hNb, lk_old hNb, hBb, lk_old hBb, hSb, lk_old hSb, hFb, lk_old hFb, dl_len, il_len, c1, c2, g]
      refine Thn_n ?_
      refine hK _ _ ?_
      clear hK K
      refine AW.ret ?_
      refine InB_r ?_
      refine Thn_r ?_
      refine Thn_r ?_
      refine InB_r ?_
      refine Thn_r ?_
      refine hQ _ _ _ ?_
      first | refine RetP.drop0 (Or.inr rfl) ?_ ?_ hwf | refine RetP.drop (Or.inr rfl) ?_ ?_ hwf
      · simp only [resA, resOne, resTv, AV.tv, push_cast, simprocAttr, hLb, lk_old hLb, hDb, lk_old hDb, hNb, lk_old hNb, hBb, lk_old hBb, hSb, lk_old hSb, hFb, lk_old hFb, dl_len, il_len, c1, c2, g, hr]
      · rfl
    · have hnx := upTo hD (held_f h25)
      refine AW.skip ?_
      refine InB_n ?_
      refine Thn_n ?_
      refine hK _ _ ?_
      clear hK K
      refine AW.region (by decide) ?_
      simp only [push_cast, simprocAttr, hLb, lk_old hLb, hDb, lk_old hDb, hNb, lk_old hNb, hBb, lk_old hBb, hSb, lk_old hSb, hFb, lk_old hFb, dl_len, il_len, c1, c2, g]
      refine Thn_n ?_
      have hwi : IntKind.i64.wrap ((i:Int)+1) = (i:Int)+1 := wi (by omega)
      refine ⟨i + 1, ⟨by omega, hnx⟩, by omega, ?_⟩
      try simp only [keepL, setAll, push_cast, simprocAttr, hLb, lk_old hLb, hDb, lk_old hDb, hNb, lk_old hNb, hBb, lk_old hBb, hSb, lk_old hSb, hFb, lk_old hFb, dl_len, il_len, c1, c2, g, hwi]
      exact Weak.same (by simp only [Keeps, Tm.get_cons, Nat.reduceEqDiff, ↓reduceIte, if_true, if_false, ite_true, ite_false, true_and, and_true, and_self, reduceCtorEq, hwi]) (by first | rfl | simp only [Keeps, Tm.get_cons, Nat.reduceEqDiff, ↓reduceIte, if_true, if_false, ite_true, ite_false, true_and, and_true, and_self, reduceCtorEq, hwi])
  · have hin : nD = i := by have := of_decide_eq_false h19; omega
    subst hin
    refine AW.exit ?_
    refine Thn_e ?_
    clear hK K
    refine Thn_e ?_
    refine InB_here ?_
    refine Thn_n ?_
    refine hK _ _ ?_
    clear hK K
    refine AW.seq_k fun K hK => ?_
    refine AW.seq_k fun K hK => ?_
    refine AW.region (by decide) ?_
    simp only [push_cast, simprocAttr, hLb, lk_old hLb, hDb, lk_old hDb, hNb, lk_old hNb, hBb, lk_old hBb, hSb, lk_old hSb, hFb, lk_old hFb, dl_len, il_len]
    refine Thn_n ?_
    refine hK _ _ ?_
    clear hK K
    refine AW.block ?_
    refine AW.rounds 3 ?_
    refine ARounds.succ fun K hK => ?_
    refine AW.seq_k fun K hK => ?_
    refine AW.region (by decide) ?_
    simp only [push_cast, simprocAttr, hLb, lk_old hLb, hDb, lk_old hDb, hNb, lk_old hNb, hBb, lk_old hBb, hSb, lk_old hSb, hFb, lk_old hFb, dl_len, il_len]
    refine Thn_n ?_
    refine hK _ _ ?_
    clear hK K
    refine AW.seq_k fun K hK => ?_
    refine AW.cond_t rfl ?_
    refine AW.skip ?_
    refine Thn_n ?_
    refine hK _ _ ?_
    clear hK K
    refine AW.seq_k fun K hK => ?_
    refine AW.block ?_
    iterate 2
      refine AW.seq_k fun K hK => ?_
      refine AW.region (by decide) ?_
      simp only [push_cast, simprocAttr, hLb, lk_old hLb, hDb, lk_old hDb, hNb, lk_old hNb, hBb, lk_old hBb, hSb, lk_old hSb, hFb, lk_old hFb, dl_len, il_len]
      refine Thn_n ?_
      refine hK _ _ ?_
      clear hK K
    refine AW.block ?_
    refine AW.loopK [1, 32, 33, 36, 37] (fun i => i ≤ nL ∧ ∀ j, j < i → ∀ k, k < 3 → okN (GL j k)) (fun i => [(38, .one (.int .i64 (i : Int)))]) (fun i => []) (fun i => nL - i) 0 ⟨by omega, fun j hj => by omega⟩ ?_ ?_ fun i hi19 => ?_
    · first | rfl | (simp only [Keeps, Tm.get_cons, Nat.reduceEqDiff, ↓reduceIte, if_true, if_false, ite_true, ite_false, true_and, and_true, and_self, reduceCtorEq] <;> rfl)
    · first | rfl | (simp only [setAll, push_cast, simprocAttr, hLb, lk_old hLb, hDb, lk_old hDb, hNb, lk_old hNb, hBb, lk_old hBb, hSb, lk_old hSb, hFb, lk_old hFb, dl_len, il_len] <;> rfl)
    obtain ⟨hiN, hL⟩ := hi19
    try simp only [keepL, setAll, push_cast, simprocAttr, hLb, lk_old hLb, hDb, lk_old hDb, hNb, lk_old hNb, hBb, lk_old hBb, hSb, lk_old hSb, hFb, lk_old hFb, dl_len, il_len]
    refine AW.seq_k fun K hK => ?_
    refine AW.region (by decide) ?_
    simp only [push_cast, simprocAttr, hLb, lk_old hLb, hDb, lk_old hDb, hNb, lk_old hNb, hBb, lk_old hBb, hSb, lk_old hSb, hFb, lk_old hFb, dl_len, il_len]
    refine Thn_n ?_
    refine hK _ _ ?_
    clear hK K
    refine AW.seq_k fun K hK => ?_
    refine AW.cond rfl (fun h39 => ?_) (fun h39 => ?_)
    · have hlt : i < nL := by have := of_decide_eq_true h39; omega
      have c1 : (0 : Int) ≤ (i : Int) := by omega
      have c2 : (i : Int) < (nL : Int) := by omega
      have c3 : i * 3 + 3 ≤ nL * 3 := by omega
      have g0 := dl_get0 (G := GL) hlt
      have g1 := dl_get1 (G := GL) hlt
      have g2 := dl_get2 (G := GL) hlt
      refine AW.skip ?_
      refine Thn_n ?_
      refine hK _ _ ?_
      clear hK K
      refine AW.seq_k fun K hK => ?_
      refine AW.block ?_
      iterate 2
        refine AW.seq_k fun K hK => ?_
        refine AW.region (by decide) ?_
        simp only [push_cast, simprocAttr, hLb, lk_old hLb, hDb, lk_old hDb, hNb, lk_old hNb, hBb, lk_old hBb, hSb, lk_old hSb, hFb, lk_old hFb, dl_len, il_len, c1, c2, c3, g0, g1, g2]
        refine Thn_n ?_
        refine hK _ _ ?_
        clear hK K
      refine AW.block ?_
      refine AW.rounds 4 ?_
      refine ARounds.succ fun K hK => ?_
      refine AW.seq_k fun K hK => ?_
      refine AW.region (by decide) ?_
      simp only [push_cast, simprocAttr, hLb, lk_old hLb, hDb, lk_old hDb, hNb, lk_old hNb, hBb, lk_old hBb, hSb, lk_old hSb, hFb, lk_old hFb, dl_len, il_len, c1, c2, c3, g0, g1, g2]
      refine Thn_n ?_
      refine hK _ _ ?_
      clear hK K
      refine AW.seq_k fun K hK => ?_
      refine AW.cond_t rfl ?_
      refine AW.skip ?_
      refine Thn_n ?_
      refine hK _ _ ?_
      clear hK K
      refine AW.seq_k fun K hK => ?_
      refine AW.block ?_
      refine AW.seq_k fun K hK => ?_
      refine AW.region (by decide) ?_
      simp only [push_cast, simprocAttr, hLb, lk_old hLb, hDb, lk_old hDb, hNb, lk_old hNb, hBb, lk_old hBb, hSb, lk_old hSb, hFb, lk_old hFb, dl_len, il_len, c1, c2, c3, g0, g1, g2]
      refine Thn_n ?_
      refine hK _ _ ?_
      clear hK K
      refine AW.seq_k fun K hK => ?_
      refine AW.region (by decide) ?_
      simp only [push_cast, simprocAttr, hLb, lk_old hLb, hDb, lk_old hDb, hNb, lk_old hNb, hBb, lk_old hBb, hSb, lk_old hSb, hFb, lk_old hFb, dl_len, il_len, c1, c2, c3, g0, g1, g2]
      refine CThen.by (held_c _ _) ?_
      simp only [push_cast, simprocAttr, hLb, lk_old hLb, hDb, lk_old hDb, hNb, lk_old hNb, hBb, lk_old hBb, hSb, lk_old hSb, hFb, lk_old hFb, dl_len, il_len, c1, c2, c3, g0, g1, g2]
      refine Thn_n ?_
      refine hK _ _ ?_
      clear hK K
      refine AW.cond rfl (fun h49 => ?_) (fun h49 => ?_)
      · have hno := held_t h49
        have hr : b = false := by
          cases hq : b
          · rfl
          · exact absurd ((hb.1 hq).l i hlt 0 (by omega)) hno
        refine AW.seq_k fun K hK => ?_
        refine AW.region (by decide) ?_
        simp only [push_cast, simprocAttr, hLb, lk_old hLb, hDb, lk_old hDb, hNb, lk_old hNb, hBb, lk_old hBb, hSb, lk_old hSb, hFb, lk_old hFb, dl_len, il_len, c1, c2, c3, g0, g1, g2]
        refine Thn_n ?_
        refine hK _ _ ?_
        clear hK K
        refine AW.ret ?_
        refine InB_r ?_
        refine Thn_r ?_
        refine Thn_r ?_
        refine InB_r ?_
        refine InB_r ?_
        refine Thn_r ?_
        refine Thn_r ?_
        refine InB_r ?_
        refine InB_r ?_
        refine Thn_r ?_
        refine Thn_r ?_
        refine InB_r ?_
        refine Thn_r ?_
        refine hQ _ _ _ ?_
        first | refine RetP.drop0 (Or.inr rfl) ?_ ?_ hwf | refine RetP.drop (Or.inr rfl) ?_ ?_ hwf
        · simp only [resA, resOne, resTv, AV.tv, push_cast, simprocAttr, hLb, lk_old hLb, hDb, lk_old hDb, hNb, lk_old hNb, hBb, lk_old hBb, hSb, lk_old hSb, hFb, lk_old hFb, dl_len, il_len, c1, c2, c3, g0, g1, g2, hr]
        · rfl
      · have y0 := held_f h49
        refine AW.skip ?_
        refine InB_n ?_
        refine Thn_n ?_
        refine hK _ _ ?_
        clear hK K
        refine AW.region (by decide) ?_
        simp only [push_cast, simprocAttr, hLb, lk_old hLb, hDb, lk_old hDb, hNb, lk_old hNb, hBb, lk_old hBb, hSb, lk_old hSb, hFb, lk_old hFb, dl_len, il_len, c1, c2, c3, g0, g1, g2]
        refine Thn_n ?_
        refine hK _ _ ?_
        clear hK K
        refine ARounds.succ fun K hK => ?_
        refine AW.seq_k fun K hK => ?_
        refine AW.region (by decide) ?_
        simp only [push_cast, simprocAttr, hLb, lk_old hLb, hDb, lk_old hDb, hNb, lk_old hNb, hBb, lk_old hBb, hSb, lk_old hSb, hFb, lk_old hFb, dl_len, il_len, c1, c2, c3, g0, g1, g2]
        refine Thn_n ?_
        refine hK _ _ ?_
        clear hK K
        refine AW.seq_k fun K hK => ?_
        refine AW.cond_t rfl ?_
        refine AW.skip ?_
        refine Thn_n ?_
        refine hK _ _ ?_
        clear hK K
        refine AW.seq_k fun K hK => ?_
        refine AW.block ?_
        refine AW.seq_k fun K hK => ?_
        refine AW.region (by decide) ?_
        simp only [push_cast, simprocAttr, hLb, lk_old hLb, hDb, lk_old hDb, hNb, lk_old hNb, hBb, lk_old hBb, hSb, lk_old hSb, hFb, lk_old hFb, dl_len, il_len, c1, c2, c3, g0, g1, g2]
        refine Thn_n ?_
        refine hK _ _ ?_
        clear hK K
        refine AW.seq_k fun K hK => ?_
        refine AW.region (by decide) ?_
        simp only [push_cast, simprocAttr, hLb, lk_old hLb, hDb, lk_old hDb, hNb, lk_old hNb, hBb, lk_old hBb, hSb, lk_old hSb, hFb, lk_old hFb, dl_len, il_len, c1, c2, c3, g0, g1, g2]
        refine CThen.by (held_c _ _) ?_
        simp only [push_cast, simprocAttr, hLb, lk_old hLb, hDb, lk_old hDb, hNb, lk_old hNb, hBb, lk_old hBb, hSb, lk_old hSb, hFb, lk_old hFb, dl_len, il_len, c1, c2, c3, g0, g1, g2]
        refine Thn_n ?_
        refine hK _ _ ?_
        clear hK K
        refine AW.cond rfl (fun h49 => ?_) (fun h49 => ?_)
        · have hno := held_t h49
          have hr : b = false := by
            cases hq : b
            · rfl
            · exact absurd ((hb.1 hq).l i hlt 1 (by omega)) hno
          refine AW.seq_k fun K hK => ?_
          refine AW.region (by decide) ?_
          simp only [push_cast, simprocAttr, hLb, lk_old hLb, hDb, lk_old hDb, hNb, lk_old hNb, hBb, lk_old hBb, hSb, lk_old hSb, hFb, lk_old hFb, dl_len, il_len, c1, c2, c3, g0, g1, g2]
          refine Thn_n ?_
          refine hK _ _ ?_
          clear hK K
          refine AW.ret ?_
          refine InB_r ?_
          refine Thn_r ?_
          refine Thn_r ?_
          refine InB_r ?_
          refine InB_r ?_
          refine Thn_r ?_
          refine Thn_r ?_
          refine InB_r ?_
          refine InB_r ?_
          refine Thn_r ?_
          refine Thn_r ?_
          refine InB_r ?_
          refine Thn_r ?_
          refine hQ _ _ _ ?_
          first | refine RetP.drop0 (Or.inr rfl) ?_ ?_ hwf | refine RetP.drop (Or.inr rfl) ?_ ?_ hwf
          · simp only [resA, resOne, resTv, AV.tv, push_cast, simprocAttr, hLb, lk_old hLb, hDb, lk_old hDb, hNb, lk_old hNb, hBb, lk_old hBb, hSb, lk_old hSb, hFb, lk_old hFb, dl_len, il_len, c1, c2, c3, g0, g1, g2, hr]
          · rfl
        · have y1 := held_f h49
          refine AW.skip ?_
          refine InB_n ?_
          refine Thn_n ?_
          refine hK _ _ ?_
          clear hK K
          refine AW.region (by decide) ?_
          simp only [push_cast, simprocAttr, hLb, lk_old hLb, hDb, lk_old hDb, hNb, lk_old hNb, hBb, lk_old hBb, hSb, lk_old hSb, hFb, lk_old hFb, dl_len, il_len, c1, c2, c3, g0, g1, g2]
          refine Thn_n ?_
          refine hK _ _ ?_
          clear hK K
          refine ARounds.succ fun K hK => ?_
          refine AW.seq_k fun K hK => ?_
          refine AW.region (by decide) ?_
          simp only [push_cast, simprocAttr, hLb, lk_old hLb, hDb, lk_old hDb, hNb, lk_old hNb, hBb, lk_old hBb, hSb, lk_old hSb, hFb, lk_old hFb, dl_len, il_len, c1, c2, c3, g0, g1, g2]
          refine Thn_n ?_
          refine hK _ _ ?_
          clear hK K
          refine AW.seq_k fun K hK => ?_
          refine AW.cond_t rfl ?_
          refine AW.skip ?_
          refine Thn_n ?_
          refine hK _ _ ?_
          clear hK K
          refine AW.seq_k fun K hK => ?_
          refine AW.block ?_
          refine AW.seq_k fun K hK => ?_
          refine AW.region (by decide) ?_
          simp only [push_cast, simprocAttr, hLb, lk_old hLb, hDb, lk_old hDb, hNb, lk_old hNb, hBb, lk_old hBb, hSb, lk_old hSb, hFb, lk_old hFb, dl_len, il_len, c1, c2, c3, g0, g1, g2]
          refine Thn_n ?_
          refine hK _ _ ?_
          clear hK K
          refine AW.seq_k fun K hK => ?_
          refine AW.region (by decide) ?_
          simp only [push_cast, simprocAttr, hLb, lk_old hLb, hDb, lk_old hDb, hNb, lk_old hNb, hBb, lk_old hBb, hSb, lk_old hSb, hFb, lk_old hFb, dl_len, il_len, c1, c2, c3, g0, g1, g2]
          refine CThen.by (held_c _ _) ?_
          simp only [push_cast, simprocAttr, hLb, lk_old hLb, hDb, lk_old hDb, hNb, lk_old hNb, hBb, lk_old hBb, hSb, lk_old hSb, hFb, lk_old hFb, dl_len, il_len, c1, c2, c3, g0, g1, g2]
          refine Thn_n ?_
          refine hK _ _ ?_
          clear hK K
          refine AW.cond rfl (fun h49 => ?_) (fun h49 => ?_)
          · have hno := held_t h49
            have hr : b = false := by
              cases hq : b
              · rfl
              · exact absurd ((hb.1 hq).l i hlt 2 (by omega)) hno
            refine AW.seq_k fun K hK => ?_
            refine AW.region (by decide) ?_
            simp only [push_cast, simprocAttr, hLb, lk_old hLb, hDb, lk_old hDb, hNb, lk_old hNb, hBb, lk_old hBb, hSb, lk_old hSb, hFb, lk_old hFb, dl_len, il_len, c1, c2, c3, g0, g1, g2]
            refine Thn_n ?_
            refine hK _ _ ?_
            clear hK K
            refine AW.ret ?_
            refine InB_r ?_
            refine Thn_r ?_
            refine Thn_r ?_
            refine InB_r ?_
            refine InB_r ?_
            refine Thn_r ?_
            refine Thn_r ?_
            refine InB_r ?_
            refine InB_r ?_
            refine Thn_r ?_
            refine Thn_r ?_
            refine InB_r ?_
            refine Thn_r ?_
            refine hQ _ _ _ ?_
            first | refine RetP.drop0 (Or.inr rfl) ?_ ?_ hwf | refine RetP.drop (Or.inr rfl) ?_ ?_ hwf
            · simp only [resA, resOne, resTv, AV.tv, push_cast, simprocAttr, hLb, lk_old hLb, hDb, lk_old hDb, hNb, lk_old hNb, hBb, lk_old hBb, hSb, lk_old hSb, hFb, lk_old hFb, dl_len, il_len, c1, c2, c3, g0, g1, g2, hr]
            · rfl
          · have y2 := held_f h49
            refine AW.skip ?_
            refine InB_n ?_
            refine Thn_n ?_
            refine hK _ _ ?_
            clear hK K
            refine AW.region (by decide) ?_
            simp only [push_cast, simprocAttr, hLb, lk_old hLb, hDb, lk_old hDb, hNb, lk_old hNb, hBb, lk_old hBb, hSb, lk_old hSb, hFb, lk_old hFb, dl_len, il_len, c1, c2, c3, g0, g1, g2]
            refine Thn_n ?_
            refine hK _ _ ?_
            clear hK K
            refine ARounds.succ fun K hK => ?_
            refine AW.seq_k fun K hK => ?_
            refine AW.region (by decide) ?_
            simp only [push_cast, simprocAttr, hLb, lk_old hLb, hDb, lk_old hDb, hNb, lk_old hNb, hBb, lk_old hBb, hSb, lk_old hSb, hFb, lk_old hFb, dl_len, il_len, c1, c2, c3, g0, g1, g2]
            refine Thn_n ?_
            refine hK _ _ ?_
            clear hK K
            refine AW.seq_k fun K hK => ?_
            refine AW.cond_f rfl ?_
            refine AW.exit ?_
            refine Thn_e ?_
            clear hK K
            refine Thn_e ?_
            clear hK K
            refine InB_here ?_
            refine InB_n ?_
            refine Thn_n ?_
            refine hK _ _ ?_
            clear hK K
            refine AW.region (by decide) ?_
            simp only [push_cast, simprocAttr, hLb, lk_old hLb, hDb, lk_old hDb, hNb, lk_old hNb, hBb, lk_old hBb, hSb, lk_old hSb, hFb, lk_old hFb, dl_len, il_len, c1, c2, c3, g0, g1, g2]
            refine Thn_n ?_
            have hnx := upTo hL (three y0 y1 y2)
            have hwi : IntKind.i64.wrap ((i:Int)+1) = (i:Int)+1 := wi (by omega)
            refine ⟨i + 1, ⟨by omega, hnx⟩, by omega, ?_⟩
            try simp only [keepL, setAll, push_cast, simprocAttr, hLb, lk_old hLb, hDb, lk_old hDb, hNb, lk_old hNb, hBb, lk_old hBb, hSb, lk_old hSb, hFb, lk_old hFb, dl_len, il_len, c1, c2, c3, g0, g1, g2, hwi]
            exact Weak.to (extra := [_]) (by simp only [Keeps, Tm.get_cons, Nat.reduceEqDiff, ↓reduceIte, if_true, if_false, ite_true, ite_false, true_and, and_true, and_self, reduceCtorEq, hwi]) (by first | rfl | (simp only [List.append_assoc, List.cons_append, List.nil_append]; rfl)) (by first | rfl | (simp [AV.below, CV.below]; done) | (simp [AV.below, CV.below]; omega)) (by
              first | exact hwf | refine MWf.app (hwf.grow (by simp)) ?_
              repeat (first | exact MWf_nil | (refine MWf_cons ?_ ?_; · first | rfl | (simp [CV.below]; done) | (simp [CV.below]; omega))))
    · have hin : nL = i := by have := of_decide_eq_false h39; omega
      subst hin
      refine AW.exit ?_
      refine Thn_e ?_
      clear hK K
      refine Thn_e ?_
      refine InB_here ?_
      refine InB_n ?_
      refine Thn_n ?_
      refine hK _ _ ?_
      clear hK K
      refine AW.region (by decide) ?_
      simp only [push_cast, simprocAttr, hLb, lk_old hLb, hDb, lk_old hDb, hNb, lk_old hNb, hBb, lk_old hBb, hSb, lk_old hSb, hFb, lk_old hFb, dl_len, il_len]
      refine Thn_n ?_
      refine hK _ _ ?_
      clear hK K
      refine ARounds.succ fun K hK => ?_
      refine AW.seq_k fun K hK => ?_
      refine AW.region (by decide) ?_
      simp only [push_cast, simprocAttr, hLb, lk_old hLb, hDb, lk_old hDb, hNb, lk_old hNb, hBb, lk_old hBb, hSb, lk_old hSb, hFb, lk_old hFb, dl_len, il_len]
      refine Thn_n ?_
      refine hK _ _ ?_
      clear hK K
      refine AW.seq_k fun K hK => ?_
      refine AW.cond_t rfl ?_
      refine AW.skip ?_
      refine Thn_n ?_
      refine hK _ _ ?_
      clear hK K
      refine AW.seq_k fun K hK => ?_
      refine AW.block ?_
      iterate 2
        refine AW.seq_k fun K hK => ?_
        refine AW.region (by decide) ?_
        simp only [push_cast, simprocAttr, hLb, lk_old hLb, hDb, lk_old hDb, hNb, lk_old hNb, hBb, lk_old hBb, hSb, lk_old hSb, hFb, lk_old hFb, dl_len, il_len]
        refine Thn_n ?_
        refine hK _ _ ?_
        clear hK K
      refine AW.block ?_
      refine AW.loopK [1, 32, 33, 36, 37] (fun i => i ≤ nB ∧ ∀ j, j < i → ∀ k, k < 3 → okN (GB j k)) (fun i => [(38, .one (.int .i64 (i : Int)))]) (fun i => []) (fun i => nB - i) 0 ⟨by omega, fun j hj => by omega⟩ ?_ ?_ fun i hi55 => ?_
      · first | rfl | (simp only [Keeps, Tm.get_cons, Nat.reduceEqDiff, ↓reduceIte, if_true, if_false, ite_true, ite_false, true_and, and_true, and_self, reduceCtorEq] <;> rfl)
      · first | rfl | (simp only [setAll, push_cast, simprocAttr, hLb, lk_old hLb, hDb, lk_old hDb, hNb, lk_old hNb, hBb, lk_old hBb, hSb, lk_old hSb, hFb, lk_old hFb, dl_len, il_len] <;> rfl)
      obtain ⟨hiN, hB⟩ := hi55
      try simp only [keepL, setAll, push_cast, simprocAttr, hLb, lk_old hLb, hDb, lk_old hDb, hNb, lk_old hNb, hBb, lk_old hBb, hSb, lk_old hSb, hFb, lk_old hFb, dl_len, il_len]
      refine AW.seq_k fun K hK => ?_
      refine AW.region (by decide) ?_
      simp only [push_cast, simprocAttr, hLb, lk_old hLb, hDb, lk_old hDb, hNb, lk_old hNb, hBb, lk_old hBb, hSb, lk_old hSb, hFb, lk_old hFb, dl_len, il_len]
      refine Thn_n ?_
      refine hK _ _ ?_
      clear hK K
      refine AW.seq_k fun K hK => ?_
      refine AW.cond rfl (fun h39 => ?_) (fun h39 => ?_)
      · have hlt : i < nB := by have := of_decide_eq_true h39; omega
        have c1 : (0 : Int) ≤ (i : Int) := by omega
        have c2 : (i : Int) < (nB : Int) := by omega
        have c3 : i * 3 + 3 ≤ nB * 3 := by omega
        have g0 := dl_get0 (G := GB) hlt
        have g1 := dl_get1 (G := GB) hlt
        have g2 := dl_get2 (G := GB) hlt
        refine AW.skip ?_
        refine Thn_n ?_
        refine hK _ _ ?_
        clear hK K
        refine AW.seq_k fun K hK => ?_
        refine AW.block ?_
        iterate 2
          refine AW.seq_k fun K hK => ?_
          refine AW.region (by decide) ?_
          simp only [push_cast, simprocAttr, hLb, lk_old hLb, hDb, lk_old hDb, hNb, lk_old hNb, hBb, lk_old hBb, hSb, lk_old hSb, hFb, lk_old hFb, dl_len, il_len, c1, c2, c3, g0, g1, g2]
          refine Thn_n ?_
          refine hK _ _ ?_
          clear hK K
        refine AW.block ?_
        refine AW.rounds 4 ?_
        refine ARounds.succ fun K hK => ?_
        refine AW.seq_k fun K hK => ?_
        refine AW.region (by decide) ?_
        simp only [push_cast, simprocAttr, hLb, lk_old hLb, hDb, lk_old hDb, hNb, lk_old hNb, hBb, lk_old hBb, hSb, lk_old hSb, hFb, lk_old hFb, dl_len, il_len, c1, c2, c3, g0, g1, g2]
        refine Thn_n ?_
        refine hK _ _ ?_
        clear hK K
        refine AW.seq_k fun K hK => ?_
        refine AW.cond_t rfl ?_
        refine AW.skip ?_
        refine Thn_n ?_
        refine hK _ _ ?_
        clear hK K
        refine AW.seq_k fun K hK => ?_
        refine AW.block ?_
        refine AW.seq_k fun K hK => ?_
        refine AW.region (by decide) ?_
        simp only [push_cast, simprocAttr, hLb, lk_old hLb, hDb, lk_old hDb, hNb, lk_old hNb, hBb, lk_old hBb, hSb, lk_old hSb, hFb, lk_old hFb, dl_len, il_len, c1, c2, c3, g0, g1, g2]
        refine Thn_n ?_
        refine hK _ _ ?_
        clear hK K
        refine AW.seq_k fun K hK => ?_
        refine AW.region (by decide) ?_
        simp only [push_cast, simprocAttr, hLb, lk_old hLb, hDb, lk_old hDb, hNb, lk_old hNb, hBb, lk_old hBb, hSb, lk_old hSb, hFb, lk_old hFb, dl_len, il_len, c1, c2, c3, g0, g1, g2]
        refine CThen.by (held_c _ _) ?_
        simp only [push_cast, simprocAttr, hLb, lk_old hLb, hDb, lk_old hDb, hNb, lk_old hNb, hBb, lk_old hBb, hSb, lk_old hSb, hFb, lk_old hFb, dl_len, il_len, c1, c2, c3, g0, g1, g2]
        refine Thn_n ?_
        refine hK _ _ ?_
        clear hK K
        refine AW.cond rfl (fun h49 => ?_) (fun h49 => ?_)
        · have hno := held_t h49
          have hr : b = false := by
            cases hq : b
            · rfl
            · exact absurd ((hb.1 hq).b i hlt 0 (by omega)) hno
          refine AW.seq_k fun K hK => ?_
          refine AW.region (by decide) ?_
          simp only [push_cast, simprocAttr, hLb, lk_old hLb, hDb, lk_old hDb, hNb, lk_old hNb, hBb, lk_old hBb, hSb, lk_old hSb, hFb, lk_old hFb, dl_len, il_len, c1, c2, c3, g0, g1, g2]
          refine Thn_n ?_
          refine hK _ _ ?_
          clear hK K
          refine AW.ret ?_
          refine InB_r ?_
          refine Thn_r ?_
          refine Thn_r ?_
          refine InB_r ?_
          refine InB_r ?_
          refine Thn_r ?_
          refine Thn_r ?_
          refine InB_r ?_
          refine InB_r ?_
          refine Thn_r ?_
          refine Thn_r ?_
          refine InB_r ?_
          refine Thn_r ?_
          refine hQ _ _ _ ?_
          first | refine RetP.drop0 (Or.inr rfl) ?_ ?_ hwf | refine RetP.drop (Or.inr rfl) ?_ ?_ hwf
          · simp only [resA, resOne, resTv, AV.tv, push_cast, simprocAttr, hLb, lk_old hLb, hDb, lk_old hDb, hNb, lk_old hNb, hBb, lk_old hBb, hSb, lk_old hSb, hFb, lk_old hFb, dl_len, il_len, c1, c2, c3, g0, g1, g2, hr]
          · rfl
        · have y0 := held_f h49
          refine AW.skip ?_
          refine InB_n ?_
          refine Thn_n ?_
          refine hK _ _ ?_
          clear hK K
          refine AW.region (by decide) ?_
          simp only [push_cast, simprocAttr, hLb, lk_old hLb, hDb, lk_old hDb, hNb, lk_old hNb, hBb, lk_old hBb, hSb, lk_old hSb, hFb, lk_old hFb, dl_len, il_len, c1, c2, c3, g0, g1, g2]
          refine Thn_n ?_
          refine hK _ _ ?_
          clear hK K
          refine ARounds.succ fun K hK => ?_
          refine AW.seq_k fun K hK => ?_
          refine AW.region (by decide) ?_
          simp only [push_cast, simprocAttr, hLb, lk_old hLb, hDb, lk_old hDb, hNb, lk_old hNb, hBb, lk_old hBb, hSb, lk_old hSb, hFb, lk_old hFb, dl_len, il_len, c1, c2, c3, g0, g1, g2]
          refine Thn_n ?_
          refine hK _ _ ?_
          clear hK K
          refine AW.seq_k fun K hK => ?_
          refine AW.cond_t rfl ?_
          refine AW.skip ?_
          refine Thn_n ?_
          refine hK _ _ ?_
          clear hK K
          refine AW.seq_k fun K hK => ?_
          refine AW.block ?_
          refine AW.seq_k fun K hK => ?_
          refine AW.region (by decide) ?_
          simp only [push_cast, simprocAttr, hLb, lk_old hLb, hDb, lk_old hDb, hNb, lk_old hNb, hBb, lk_old hBb, hSb, lk_old hSb, hFb, lk_old hFb, dl_len, il_len, c1, c2, c3, g0, g1, g2]
          refine Thn_n ?_
          refine hK _ _ ?_
          clear hK K
          refine AW.seq_k fun K hK => ?_
          refine AW.region (by decide) ?_
          simp only [push_cast, simprocAttr, hLb, lk_old hLb, hDb, lk_old hDb, hNb, lk_old hNb, hBb, lk_old hBb, hSb, lk_old hSb, hFb, lk_old hFb, dl_len, il_len, c1, c2, c3, g0, g1, g2]
          refine CThen.by (held_c _ _) ?_
          simp only [push_cast, simprocAttr, hLb, lk_old hLb, hDb, lk_old hDb, hNb, lk_old hNb, hBb, lk_old hBb, hSb, lk_old hSb, hFb, lk_old hFb, dl_len, il_len, c1, c2, c3, g0, g1, g2]
          refine Thn_n ?_
          refine hK _ _ ?_
          clear hK K
          refine AW.cond rfl (fun h49 => ?_) (fun h49 => ?_)
          · have hno := held_t h49
            have hr : b = false := by
              cases hq : b
              · rfl
              · exact absurd ((hb.1 hq).b i hlt 1 (by omega)) hno
            refine AW.seq_k fun K hK => ?_
            refine AW.region (by decide) ?_
            simp only [push_cast, simprocAttr, hLb, lk_old hLb, hDb, lk_old hDb, hNb, lk_old hNb, hBb, lk_old hBb, hSb, lk_old hSb, hFb, lk_old hFb, dl_len, il_len, c1, c2, c3, g0, g1, g2]
            refine Thn_n ?_
            refine hK _ _ ?_
            clear hK K
            refine AW.ret ?_
            refine InB_r ?_
            refine Thn_r ?_
            refine Thn_r ?_
            refine InB_r ?_
            refine InB_r ?_
            refine Thn_r ?_
            refine Thn_r ?_
            refine InB_r ?_
            refine InB_r ?_
            refine Thn_r ?_
            refine Thn_r ?_
            refine InB_r ?_
            refine Thn_r ?_
            refine hQ _ _ _ ?_
            first | refine RetP.drop0 (Or.inr rfl) ?_ ?_ hwf | refine RetP.drop (Or.inr rfl) ?_ ?_ hwf
            · simp only [resA, resOne, resTv, AV.tv, push_cast, simprocAttr, hLb, lk_old hLb, hDb, lk_old hDb, hNb, lk_old hNb, hBb, lk_old hBb, hSb, lk_old hSb, hFb, lk_old hFb, dl_len, il_len, c1, c2, c3, g0, g1, g2, hr]
            · rfl
          · have y1 := held_f h49
            refine AW.skip ?_
            refine InB_n ?_
            refine Thn_n ?_
            refine hK _ _ ?_
            clear hK K
            refine AW.region (by decide) ?_
            simp only [push_cast, simprocAttr, hLb, lk_old hLb, hDb, lk_old hDb, hNb, lk_old hNb, hBb, lk_old hBb, hSb, lk_old hSb, hFb, lk_old hFb, dl_len, il_len, c1, c2, c3, g0, g1, g2]
            refine Thn_n ?_
            refine hK _ _ ?_
            clear hK K
            refine ARounds.succ fun K hK => ?_
            refine AW.seq_k fun K hK => ?_
            refine AW.region (by decide) ?_
            simp only [push_cast, simprocAttr, hLb, lk_old hLb, hDb, lk_old hDb, hNb, lk_old hNb, hBb, lk_old hBb, hSb, lk_old hSb, hFb, lk_old hFb, dl_len, il_len, c1, c2, c3, g0, g1, g2]
            refine Thn_n ?_
            refine hK _ _ ?_
            clear hK K
            refine AW.seq_k fun K hK => ?_
            refine AW.cond_t rfl ?_
            refine AW.skip ?_
            refine Thn_n ?_
            refine hK _ _ ?_
            clear hK K
            refine AW.seq_k fun K hK => ?_
            refine AW.block ?_
            refine AW.seq_k fun K hK => ?_
            refine AW.region (by decide) ?_
            simp only [push_cast, simprocAttr, hLb, lk_old hLb, hDb, lk_old hDb, hNb, lk_old hNb, hBb, lk_old hBb, hSb, lk_old hSb, hFb, lk_old hFb, dl_len, il_len, c1, c2, c3, g0, g1, g2]
            refine Thn_n ?_
            refine hK _ _ ?_
            clear hK K
            refine AW.seq_k fun K hK => ?_
            refine AW.region (by decide) ?_
            simp only [push_cast, simprocAttr, hLb, lk_old hLb, hDb, lk_old hDb, hNb, lk_old hNb, hBb, lk_old hBb, hSb, lk_old hSb, hFb, lk_old hFb, dl_len, il_len, c1, c2, c3, g0, g1, g2]
            refine CThen.by (held_c _ _) ?_
            simp only [push_cast, simprocAttr, hLb, lk_old hLb, hDb, lk_old hDb, hNb, lk_old hNb, hBb, lk_old hBb, hSb, lk_old hSb, hFb, lk_old hFb, dl_len, il_len, c1, c2, c3, g0, g1, g2]
            refine Thn_n ?_
            refine hK _ _ ?_
            clear hK K
            refine AW.cond rfl (fun h49 => ?_) (fun h49 => ?_)
            · have hno := held_t h49
              have hr : b = false := by
                cases hq : b
                · rfl
                · exact absurd ((hb.1 hq).b i hlt 2 (by omega)) hno
              refine AW.seq_k fun K hK => ?_
              refine AW.region (by decide) ?_
              simp only [push_cast, simprocAttr, hLb, lk_old hLb, hDb, lk_old hDb, hNb, lk_old hNb, hBb, lk_old hBb, hSb, lk_old hSb, hFb, lk_old hFb, dl_len, il_len, c1, c2, c3, g0, g1, g2]
              refine Thn_n ?_
              refine hK _ _ ?_
              clear hK K
              refine AW.ret ?_
              refine InB_r ?_
              refine Thn_r ?_
              refine Thn_r ?_
              refine InB_r ?_
              refine InB_r ?_
              refine Thn_r ?_
              refine Thn_r ?_
              refine InB_r ?_
              refine InB_r ?_
              refine Thn_r ?_
              refine Thn_r ?_
              refine InB_r ?_
              refine Thn_r ?_
              refine hQ _ _ _ ?_
              first | refine RetP.drop0 (Or.inr rfl) ?_ ?_ hwf | refine RetP.drop (Or.inr rfl) ?_ ?_ hwf
              · simp only [resA, resOne, resTv, AV.tv, push_cast, simprocAttr, hLb, lk_old hLb, hDb, lk_old hDb, hNb, lk_old hNb, hBb, lk_old hBb, hSb, lk_old hSb, hFb, lk_old hFb, dl_len, il_len, c1, c2, c3, g0, g1, g2, hr]
              · rfl
            · have y2 := held_f h49
              refine AW.skip ?_
              refine InB_n ?_
              refine Thn_n ?_
              refine hK _ _ ?_
              clear hK K
              refine AW.region (by decide) ?_
              simp only [push_cast, simprocAttr, hLb, lk_old hLb, hDb, lk_old hDb, hNb, lk_old hNb, hBb, lk_old hBb, hSb, lk_old hSb, hFb, lk_old hFb, dl_len, il_len, c1, c2, c3, g0, g1, g2]
              refine Thn_n ?_
              refine hK _ _ ?_
              clear hK K
              refine ARounds.succ fun K hK => ?_
              refine AW.seq_k fun K hK => ?_
              refine AW.region (by decide) ?_
              simp only [push_cast, simprocAttr, hLb, lk_old hLb, hDb, lk_old hDb, hNb, lk_old hNb, hBb, lk_old hBb, hSb, lk_old hSb, hFb, lk_old hFb, dl_len, il_len, c1, c2, c3, g0, g1, g2]
              refine Thn_n ?_
              refine hK _ _ ?_
              clear hK K
              refine AW.seq_k fun K hK => ?_
              refine AW.cond_f rfl ?_
              refine AW.exit ?_
              refine Thn_e ?_
              clear hK K
              refine Thn_e ?_
              clear hK K
              refine InB_here ?_
              refine InB_n ?_
              refine Thn_n ?_
              refine hK _ _ ?_
              clear hK K
              refine AW.region (by decide) ?_
              simp only [push_cast, simprocAttr, hLb, lk_old hLb, hDb, lk_old hDb, hNb, lk_old hNb, hBb, lk_old hBb, hSb, lk_old hSb, hFb, lk_old hFb, dl_len, il_len, c1, c2, c3, g0, g1, g2]
              refine Thn_n ?_
              have hnx := upTo hB (three y0 y1 y2)
              have hwi : IntKind.i64.wrap ((i:Int)+1) = (i:Int)+1 := wi (by omega)
              refine ⟨i + 1, ⟨by omega, hnx⟩, by omega, ?_⟩
              try simp only [keepL, setAll, push_cast, simprocAttr, hLb, lk_old hLb, hDb, lk_old hDb, hNb, lk_old hNb, hBb, lk_old hBb, hSb, lk_old hSb, hFb, lk_old hFb, dl_len, il_len, c1, c2, c3, g0, g1, g2, hwi]
              exact Weak.to (extra := [_]) (by simp only [Keeps, Tm.get_cons, Nat.reduceEqDiff, ↓reduceIte, if_true, if_false, ite_true, ite_false, true_and, and_true, and_self, reduceCtorEq, hwi]) (by first | rfl | (simp only [List.append_assoc, List.cons_append, List.nil_append]; rfl)) (by first | rfl | (simp [AV.below, CV.below]; done) | (simp [AV.below, CV.below]; omega)) (by
                first | exact hwf | refine MWf.app (hwf.grow (by simp)) ?_
                repeat (first | exact MWf_nil | (refine MWf_cons ?_ ?_; · first | rfl | (simp [CV.below]; done) | (simp [CV.below]; omega))))
      · have hin : nB = i := by have := of_decide_eq_false h39; omega
        subst hin
        refine AW.exit ?_
        refine Thn_e ?_
        clear hK K
        refine Thn_e ?_
        refine InB_here ?_
        refine InB_n ?_
        refine Thn_n ?_
        refine hK _ _ ?_
        clear hK K
        refine AW.region (by decide) ?_
        simp only [push_cast, simprocAttr, hLb, lk_old hLb, hDb, lk_old hDb, hNb, lk_old hNb, hBb, lk_old hBb, hSb, lk_old hSb, hFb, lk_old hFb, dl_len, il_len]
        refine Thn_n ?_
        refine hK _ _ ?_
        clear hK K
        refine ARounds.succ fun K hK => ?_
        refine AW.seq_k fun K hK => ?_
        refine AW.region (by decide) ?_
        simp only [push_cast, simprocAttr, hLb, lk_old hLb, hDb, lk_old hDb, hNb, lk_old hNb, hBb, lk_old hBb, hSb, lk_old hSb, hFb, lk_old hFb, dl_len, il_len]
        refine Thn_n ?_
        refine hK _ _ ?_
        clear hK K
        refine AW.seq_k fun K hK => ?_
        refine AW.cond_f rfl ?_
        refine AW.exit ?_
        refine Thn_e ?_
        clear hK K
        refine Thn_e ?_
        clear hK K
        refine InB_here ?_
        refine Thn_n ?_
        refine hK _ _ ?_
        clear hK K
        refine AW.seq_k fun K hK => ?_
        refine AW.seq_k fun K hK => ?_
        refine AW.region (by decide) ?_
        simp only [push_cast, simprocAttr, hLb, lk_old hLb, hDb, lk_old hDb, hNb, lk_old hNb, hBb, lk_old hBb, hSb, lk_old hSb, hFb, lk_old hFb, dl_len, il_len]
        refine Thn_n ?_
        refine hK _ _ ?_
        clear hK K
        refine AW.block ?_
        refine AW.loopK [54, 55] (fun i => i ≤ nN ∧ ∀ j, j < i → ∀ k, k < 3 → okN (GN j k)) (fun i => [(56, .one (.int .i64 (i : Int)))]) (fun i => []) (fun i => nN - i) 0 ⟨by omega, fun j hj => by omega⟩ ?_ ?_ fun i hi90 => ?_
        · first | rfl | (simp only [Keeps, Tm.get_cons, Nat.reduceEqDiff, ↓reduceIte, if_true, if_false, ite_true, ite_false, true_and, and_true, and_self, reduceCtorEq] <;> rfl)
        · first | rfl | (simp only [setAll, push_cast, simprocAttr, hLb, lk_old hLb, hDb, lk_old hDb, hNb, lk_old hNb, hBb, lk_old hBb, hSb, lk_old hSb, hFb, lk_old hFb, dl_len, il_len] <;> rfl)
        obtain ⟨hiN, hN⟩ := hi90
        try simp only [keepL, setAll, push_cast, simprocAttr, hLb, lk_old hLb, hDb, lk_old hDb, hNb, lk_old hNb, hBb, lk_old hBb, hSb, lk_old hSb, hFb, lk_old hFb, dl_len, il_len]
        refine AW.seq_k fun K hK => ?_
        refine AW.region (by decide) ?_
        simp only [push_cast, simprocAttr, hLb, lk_old hLb, hDb, lk_old hDb, hNb, lk_old hNb, hBb, lk_old hBb, hSb, lk_old hSb, hFb, lk_old hFb, dl_len, il_len]
        refine Thn_n ?_
        refine hK _ _ ?_
        clear hK K
        refine AW.seq_k fun K hK => ?_
        refine AW.cond rfl (fun h57 => ?_) (fun h57 => ?_)
        · have hlt : i < nN := by have := of_decide_eq_true h57; omega
          have c1 : (0 : Int) ≤ (i : Int) := by omega
          have c2 : (i : Int) < (nN : Int) := by omega
          have c3 : i * 3 + 3 ≤ nN * 3 := by omega
          have g0 := dl_get0 (G := GN) hlt
          have g1 := dl_get1 (G := GN) hlt
          have g2 := dl_get2 (G := GN) hlt
          refine AW.skip ?_
          refine Thn_n ?_
          refine hK _ _ ?_
          clear hK K
          refine AW.seq_k fun K hK => ?_
          refine AW.block ?_
          iterate 2
            refine AW.seq_k fun K hK => ?_
            refine AW.region (by decide) ?_
            simp only [push_cast, simprocAttr, hLb, lk_old hLb, hDb, lk_old hDb, hNb, lk_old hNb, hBb, lk_old hBb, hSb, lk_old hSb, hFb, lk_old hFb, dl_len, il_len, c1, c2, c3, g0, g1, g2]
            refine Thn_n ?_
            refine hK _ _ ?_
            clear hK K
          refine AW.block ?_
          refine AW.rounds 4 ?_
          refine ARounds.succ fun K hK => ?_
          refine AW.seq_k fun K hK => ?_
          refine AW.region (by decide) ?_
          simp only [push_cast, simprocAttr, hLb, lk_old hLb, hDb, lk_old hDb, hNb, lk_old hNb, hBb, lk_old hBb, hSb, lk_old hSb, hFb, lk_old hFb, dl_len, il_len, c1, c2, c3, g0, g1, g2]
          refine Thn_n ?_
          refine hK _ _ ?_
          clear hK K
          refine AW.seq_k fun K hK => ?_
          refine AW.cond_t rfl ?_
          refine AW.skip ?_
          refine Thn_n ?_
          refine hK _ _ ?_
          clear hK K
          refine AW.seq_k fun K hK => ?_
          refine AW.block ?_
          refine AW.seq_k fun K hK => ?_
          refine AW.region (by decide) ?_
          simp only [push_cast, simprocAttr, hLb, lk_old hLb, hDb, lk_old hDb, hNb, lk_old hNb, hBb, lk_old hBb, hSb, lk_old hSb, hFb, lk_old hFb, dl_len, il_len, c1, c2, c3, g0, g1, g2]
          refine Thn_n ?_
          refine hK _ _ ?_
          clear hK K
          refine AW.seq_k fun K hK => ?_
          refine AW.region (by decide) ?_
          simp only [push_cast, simprocAttr, hLb, lk_old hLb, hDb, lk_old hDb, hNb, lk_old hNb, hBb, lk_old hBb, hSb, lk_old hSb, hFb, lk_old hFb, dl_len, il_len, c1, c2, c3, g0, g1, g2]
          refine CThen.by (held_c _ _) ?_
          simp only [push_cast, simprocAttr, hLb, lk_old hLb, hDb, lk_old hDb, hNb, lk_old hNb, hBb, lk_old hBb, hSb, lk_old hSb, hFb, lk_old hFb, dl_len, il_len, c1, c2, c3, g0, g1, g2]
          refine Thn_n ?_
          refine hK _ _ ?_
          clear hK K
          refine AW.cond rfl (fun h67 => ?_) (fun h67 => ?_)
          · have hno := held_t h67
            have hr : b = false := by
              cases hq : b
              · rfl
              · exact absurd ((hb.1 hq).n i hlt 0 (by omega)) hno
            refine AW.seq_k fun K hK => ?_
            refine AW.region (by decide) ?_
            simp only [push_cast, simprocAttr, hLb, lk_old hLb, hDb, lk_old hDb, hNb, lk_old hNb, hBb, lk_old hBb, hSb, lk_old hSb, hFb, lk_old hFb, dl_len, il_len, c1, c2, c3, g0, g1, g2]
            refine Thn_n ?_
            refine hK _ _ ?_
            clear hK K
            refine AW.ret ?_
            refine InB_r ?_
            refine Thn_r ?_
            refine Thn_r ?_
            refine InB_r ?_
            refine InB_r ?_
            refine Thn_r ?_
            refine Thn_r ?_
            refine InB_r ?_
            refine Thn_r ?_
            refine hQ _ _ _ ?_
            first | refine RetP.drop0 (Or.inr rfl) ?_ ?_ hwf | refine RetP.drop (Or.inr rfl) ?_ ?_ hwf
            · simp only [resA, resOne, resTv, AV.tv, push_cast, simprocAttr, hLb, lk_old hLb, hDb, lk_old hDb, hNb, lk_old hNb, hBb, lk_old hBb, hSb, lk_old hSb, hFb, lk_old hFb, dl_len, il_len, c1, c2, c3, g0, g1, g2, hr]
            · rfl
          · have y0 := held_f h67
            refine AW.skip ?_
            refine InB_n ?_
            refine Thn_n ?_
            refine hK _ _ ?_
            clear hK K
            refine AW.region (by decide) ?_
            simp only [push_cast, simprocAttr, hLb, lk_old hLb, hDb, lk_old hDb, hNb, lk_old hNb, hBb, lk_old hBb, hSb, lk_old hSb, hFb, lk_old hFb, dl_len, il_len, c1, c2, c3, g0, g1, g2]
            refine Thn_n ?_
            refine hK _ _ ?_
            clear hK K
            refine ARounds.succ fun K hK => ?_
            refine AW.seq_k fun K hK => ?_
            refine AW.region (by decide) ?_
            simp only [push_cast, simprocAttr, hLb, lk_old hLb, hDb, lk_old hDb, hNb, lk_old hNb, hBb, lk_old hBb, hSb, lk_old hSb, hFb, lk_old hFb, dl_len, il_len, c1, c2, c3, g0, g1, g2]
            refine Thn_n ?_
            refine hK _ _ ?_
            clear hK K
            refine AW.seq_k fun K hK => ?_
            refine AW.cond_t rfl ?_
            refine AW.skip ?_
            refine Thn_n ?_
            refine hK _ _ ?_
            clear hK K
            refine AW.seq_k fun K hK => ?_
            refine AW.block ?_
            refine AW.seq_k fun K hK => ?_
            refine AW.region (by decide) ?_
            simp only [push_cast, simprocAttr, hLb, lk_old hLb, hDb, lk_old hDb, hNb, lk_old hNb, hBb, lk_old hBb, hSb, lk_old hSb, hFb, lk_old hFb, dl_len, il_len, c1, c2, c3, g0, g1, g2]
            refine Thn_n ?_
            refine hK _ _ ?_
            clear hK K
            refine AW.seq_k fun K hK => ?_
            refine AW.region (by decide) ?_
            simp only [push_cast, simprocAttr, hLb, lk_old hLb, hDb, lk_old hDb, hNb, lk_old hNb, hBb, lk_old hBb, hSb, lk_old hSb, hFb, lk_old hFb, dl_len, il_len, c1, c2, c3, g0, g1, g2]
            refine CThen.by (held_c _ _) ?_
            simp only [push_cast, simprocAttr, hLb, lk_old hLb, hDb, lk_old hDb, hNb, lk_old hNb, hBb, lk_old hBb, hSb, lk_old hSb, hFb, lk_old hFb, dl_len, il_len, c1, c2, c3, g0, g1, g2]
            refine Thn_n ?_
            refine hK _ _ ?_
            clear hK K
            refine AW.cond rfl (fun h67 => ?_) (fun h67 => ?_)
            · have hno := held_t h67
              have hr : b = false := by
                cases hq : b
                · rfl
                · exact absurd ((hb.1 hq).n i hlt 1 (by omega)) hno
              refine AW.seq_k fun K hK => ?_
              refine AW.region (by decide) ?_
              simp only [push_cast, simprocAttr, hLb, lk_old hLb, hDb, lk_old hDb, hNb, lk_old hNb, hBb, lk_old hBb, hSb, lk_old hSb, hFb, lk_old hFb, dl_len, il_len, c1, c2, c3, g0, g1, g2]
              refine Thn_n ?_
              refine hK _ _ ?_
              clear hK K
              refine AW.ret ?_
              refine InB_r ?_
              refine Thn_r ?_
              refine Thn_r ?_
              refine InB_r ?_
              refine InB_r ?_
              refine Thn_r ?_
              refine Thn_r ?_
              refine InB_r ?_
              refine Thn_r ?_
              refine hQ _ _ _ ?_
              first | refine RetP.drop0 (Or.inr rfl) ?_ ?_ hwf | refine RetP.drop (Or.inr rfl) ?_ ?_ hwf
              · simp only [resA, resOne, resTv, AV.tv, push_cast, simprocAttr, hLb, lk_old hLb, hDb, lk_old hDb, hNb, lk_old hNb, hBb, lk_old hBb, hSb, lk_old hSb, hFb, lk_old hFb, dl_len, il_len, c1, c2, c3, g0, g1, g2, hr]
              · rfl
            · have y1 := held_f h67
              refine AW.skip ?_
              refine InB_n ?_
              refine Thn_n ?_
              refine hK _ _ ?_
              clear hK K
              refine AW.region (by decide) ?_
              simp only [push_cast, simprocAttr, hLb, lk_old hLb, hDb, lk_old hDb, hNb, lk_old hNb, hBb, lk_old hBb, hSb, lk_old hSb, hFb, lk_old hFb, dl_len, il_len, c1, c2, c3, g0, g1, g2]
              refine Thn_n ?_
              refine hK _ _ ?_
              clear hK K
              refine ARounds.succ fun K hK => ?_
              refine AW.seq_k fun K hK => ?_
              refine AW.region (by decide) ?_
              simp only [push_cast, simprocAttr, hLb, lk_old hLb, hDb, lk_old hDb, hNb, lk_old hNb, hBb, lk_old hBb, hSb, lk_old hSb, hFb, lk_old hFb, dl_len, il_len, c1, c2, c3, g0, g1, g2]
              refine Thn_n ?_
              refine hK _ _ ?_
              clear hK K
              refine AW.seq_k fun K hK => ?_
              refine AW.cond_t rfl ?_
              refine AW.skip ?_
              refine Thn_n ?_
              refine hK _ _ ?_
              clear hK K
              refine AW.seq_k fun K hK => ?_
              refine AW.block ?_
              refine AW.seq_k fun K hK => ?_
              refine AW.region (by decide) ?_
              simp only [push_cast, simprocAttr, hLb, lk_old hLb, hDb, lk_old hDb, hNb, lk_old hNb, hBb, lk_old hBb, hSb, lk_old hSb, hFb, lk_old hFb, dl_len, il_len, c1, c2, c3, g0, g1, g2]
              refine Thn_n ?_
              refine hK _ _ ?_
              clear hK K
              refine AW.seq_k fun K hK => ?_
              refine AW.region (by decide) ?_
              simp only [push_cast, simprocAttr, hLb, lk_old hLb, hDb, lk_old hDb, hNb, lk_old hNb, hBb, lk_old hBb, hSb, lk_old hSb, hFb, lk_old hFb, dl_len, il_len, c1, c2, c3, g0, g1, g2]
              refine CThen.by (held_c _ _) ?_
              simp only [push_cast, simprocAttr, hLb, lk_old hLb, hDb, lk_old hDb, hNb, lk_old hNb, hBb, lk_old hBb, hSb, lk_old hSb, hFb, lk_old hFb, dl_len, il_len, c1, c2, c3, g0, g1, g2]
              refine Thn_n ?_
              refine hK _ _ ?_
              clear hK K
              refine AW.cond rfl (fun h67 => ?_) (fun h67 => ?_)
              · have hno := held_t h67
                have hr : b = false := by
                  cases hq : b
                  · rfl
                  · exact absurd ((hb.1 hq).n i hlt 2 (by omega)) hno
                refine AW.seq_k fun K hK => ?_
                refine AW.region (by decide) ?_
                simp only [push_cast, simprocAttr, hLb, lk_old hLb, hDb, lk_old hDb, hNb, lk_old hNb, hBb, lk_old hBb, hSb, lk_old hSb, hFb, lk_old hFb, dl_len, il_len, c1, c2, c3, g0, g1, g2]
                refine Thn_n ?_
                refine hK _ _ ?_
                clear hK K
                refine AW.ret ?_
                refine InB_r ?_
                refine Thn_r ?_
                refine Thn_r ?_
                refine InB_r ?_
                refine InB_r ?_
                refine Thn_r ?_
                refine Thn_r ?_
                refine InB_r ?_
                refine Thn_r ?_
                refine hQ _ _ _ ?_
                first | refine RetP.drop0 (Or.inr rfl) ?_ ?_ hwf | refine RetP.drop (Or.inr rfl) ?_ ?_ hwf
                · simp only [resA, resOne, resTv, AV.tv, push_cast, simprocAttr, hLb, lk_old hLb, hDb, lk_old hDb, hNb, lk_old hNb, hBb, lk_old hBb, hSb, lk_old hSb, hFb, lk_old hFb, dl_len, il_len, c1, c2, c3, g0, g1, g2, hr]
                · rfl
              · have y2 := held_f h67
                refine AW.skip ?_
                refine InB_n ?_
                refine Thn_n ?_
                refine hK _ _ ?_
                clear hK K
                refine AW.region (by decide) ?_
                simp only [push_cast, simprocAttr, hLb, lk_old hLb, hDb, lk_old hDb, hNb, lk_old hNb, hBb, lk_old hBb, hSb, lk_old hSb, hFb, lk_old hFb, dl_len, il_len, c1, c2, c3, g0, g1, g2]
                refine Thn_n ?_
                refine hK _ _ ?_
                clear hK K
                refine ARounds.succ fun K hK => ?_
                refine AW.seq_k fun K hK => ?_
                refine AW.region (by decide) ?_
                simp only [push_cast, simprocAttr, hLb, lk_old hLb, hDb, lk_old hDb, hNb, lk_old hNb, hBb, lk_old hBb, hSb, lk_old hSb, hFb, lk_old hFb, dl_len, il_len, c1, c2, c3, g0, g1, g2]
                refine Thn_n ?_
                refine hK _ _ ?_
                clear hK K
                refine AW.seq_k fun K hK => ?_
                refine AW.cond_f rfl ?_
                refine AW.exit ?_
                refine Thn_e ?_
                clear hK K
                refine Thn_e ?_
                clear hK K
                refine InB_here ?_
                refine InB_n ?_
                refine Thn_n ?_
                refine hK _ _ ?_
                clear hK K
                refine AW.region (by decide) ?_
                simp only [push_cast, simprocAttr, hLb, lk_old hLb, hDb, lk_old hDb, hNb, lk_old hNb, hBb, lk_old hBb, hSb, lk_old hSb, hFb, lk_old hFb, dl_len, il_len, c1, c2, c3, g0, g1, g2]
                refine Thn_n ?_
                have hnx := upTo hN (three y0 y1 y2)
                have hwi : IntKind.i64.wrap ((i:Int)+1) = (i:Int)+1 := wi (by omega)
                refine ⟨i + 1, ⟨by omega, hnx⟩, by omega, ?_⟩
                try simp only [keepL, setAll, push_cast, simprocAttr, hLb, lk_old hLb, hDb, lk_old hDb, hNb, lk_old hNb, hBb, lk_old hBb, hSb, lk_old hSb, hFb, lk_old hFb, dl_len, il_len, c1, c2, c3, g0, g1, g2, hwi]
                exact Weak.to (extra := [_]) (by simp only [Keeps, Tm.get_cons, Nat.reduceEqDiff, ↓reduceIte, if_true, if_false, ite_true, ite_false, true_and, and_true, and_self, reduceCtorEq, hwi]) (by first | rfl | (simp only [List.append_assoc, List.cons_append, List.nil_append]; rfl)) (by first | rfl | (simp [AV.below, CV.below]; done) | (simp [AV.below, CV.below]; omega)) (by
                  first | exact hwf | refine MWf.app (hwf.grow (by simp)) ?_
                  repeat (first | exact MWf_nil | (refine MWf_cons ?_ ?_; · first | rfl | (simp [CV.below]; done) | (simp [CV.below]; omega))))
        · have hin : nN = i := by have := of_decide_eq_false h57; omega
          subst hin
          have hr : b = true := hb.2 ⟨hD, hL, hB, hN⟩
          refine AW.exit ?_
          refine Thn_e ?_
          clear hK K
          refine Thn_e ?_
          refine InB_here ?_
          refine Thn_n ?_
          refine hK _ _ ?_
          clear hK K
          refine AW.seq_k fun K hK => ?_
          refine AW.region (by decide) ?_
          simp only [push_cast, simprocAttr, hLb, lk_old hLb, hDb, lk_old hDb, hNb, lk_old hNb, hBb, lk_old hBb, hSb, lk_old hSb, hFb, lk_old hFb, dl_len, il_len]
          refine Thn_n ?_
          refine hK _ _ ?_
          clear hK K
          refine AW.ret ?_
          refine hQ _ _ _ ?_
          first | refine RetP.drop0 (Or.inr rfl) ?_ ?_ hwf | refine RetP.drop (Or.inr rfl) ?_ ?_ hwf
          · simp only [resA, resOne, resTv, AV.tv, push_cast, simprocAttr, hLb, lk_old hLb, hDb, lk_old hDb, hNb, lk_old hNb, hBb, lk_old hBb, hSb, lk_old hSb, hFb, lk_old hFb, dl_len, il_len, hr]
          · rfl
end Go.Proofs.Ytgbehbaecdepjaa
