/- Walks and facts of this seat's program over abstract states, printed by a program of mine; no conditions but those that each theorem names. -/
import Derived.Test.YtgbehbaecdepjaaFilmQ
set_option linter.unusedSimpArgs false
set_option linter.unusedVariables false
set_option maxRecDepth 100000
set_option maxHeartbeats 4000000
namespace Go.Proofs.Ytgbehbaecdepjaa
open Go Go.Eng

theorem hueFrom_c (a b c : Int) (m : AMem) : Ctr Try.prog 56 [.agg [.int .i64 a, .int .i64 b, .int .i64 c]] m (.agg [.int .i64 a, .int .i64 b, .int .i64 c]) m := by
  refine Ctr.enter Try.func56 rfl (by decide) (rs := [.cell 2 75]) (nt := 10) rfl rfl fun hwf Q hQ => ?_
  iterate 2
    refine AW.seq_k fun K hK => ?_
    refine AW.region (by decide) ?_
    simp only [push_cast, simprocAttr]
    refine Thn_n ?_
    refine hK _ _ ?_
    clear hK K
  refine AW.ret ?_
  refine hQ _ _ _ ?_
  first | refine RetP.drop0 (Or.inr rfl) ?_ ?_ hwf | refine RetP.drop (Or.inr rfl) ?_ ?_ hwf
  · simp only [resA, resOne, resTv, AV.tv, push_cast, simprocAttr]
  · rfl
theorem vecFrom_c (a b c : Int) (m : AMem) : Ctr Try.prog 57 [.agg [.int .i64 a, .int .i64 b, .int .i64 c]] m (.agg [.int .i64 a, .int .i64 b, .int .i64 c]) m := by
  refine Ctr.enter Try.func57 rfl (by decide) (rs := [.cell 2 71]) (nt := 10) rfl rfl fun hwf Q hQ => ?_
  iterate 2
    refine AW.seq_k fun K hK => ?_
    refine AW.region (by decide) ?_
    simp only [push_cast, simprocAttr]
    refine Thn_n ?_
    refine hK _ _ ?_
    clear hK K
  refine AW.ret ?_
  refine hQ _ _ _ ?_
  first | refine RetP.drop0 (Or.inr rfl) ?_ ?_ hwf | refine RetP.drop (Or.inr rfl) ?_ ?_ hwf
  · simp only [resA, resOne, resTv, AV.tv, push_cast, simprocAttr]
  · rfl
theorem fromSheet_c (W H : Int) (r v n : Nat) (G : Nat → Nat → Int) (m : AMem) (hp : ∃ k ez, m[r]? = some ⟨k, 68, v, ez, dl n G⟩) (hn : n ≤ 1048576) : Ctr Try.prog 25 [.agg [.int .i64 W, .int .i64 H, .sl r v 0 n]] m (.agg [.int .i64 W, .int .i64 H, .sl m.length 0 0 n]) (m ++ [⟨.grow, 75, 0, 3, dl n G⟩]) := by
  refine Ctr.enter Try.func25 rfl (by decide) (rs := [.cell 2 24]) (nt := 29) rfl rfl fun hwf Q hQ => ?_
  obtain ⟨k0, ez, hb⟩ := hp
  have hr := get_lt hb
  have hlt0 : ∀ k, ¬ m.length + k < m.length := fun k => by omega
  iterate 2
    refine AW.seq_k fun K hK => ?_
    refine AW.region (by decide) ?_
    simp only [push_cast, simprocAttr, hb, lk_old hb, dl_len]
    refine Thn_n ?_
    refine hK _ _ ?_
    clear hK K
  refine AW.seq_k fun K hK => ?_
  refine AW.seq_k fun K hK => ?_
  refine AW.region (by decide) ?_
  simp only [push_cast, simprocAttr, hb, lk_old hb, dl_len]
  refine Thn_n ?_
  refine hK _ _ ?_
  clear hK K
  refine AW.block ?_
  refine AW.nilCell 75 3 (m.length + 2) 2 (by simp only [push_cast, simprocAttr, hb, lk_old hb, dl_len]; first | done | rfl) (by intro e; cases e) rfl ?_
  try simp only [push_cast, simprocAttr, hb, lk_old hb, dl_len]
  refine AW.loopK [2, 3, 14, 15] (fun i => i ≤ n) (fun i => [(16, .one (.int .i64 (i : Int)))]) (fun i => [(m.length + 2, ⟨.fix, 24, 0, 0, [.int .i64 W, .int .i64 H, .sl (m.length + 3) i 0 i]⟩), (m.length + 3, ⟨.grow, 75, i, 3, dl i G⟩)]) (fun i => n - i) 0 (by omega) ?_ ?_ fun i hi5 => ?_
  · first | rfl | (simp only [Keeps, Tm.get_cons, Nat.reduceEqDiff, ↓reduceIte, if_true, if_false, ite_true, ite_false, true_and, and_true, and_self, reduceCtorEq, dl, Int.natCast_zero] <;> rfl)
  · first | rfl | (simp only [setAll, push_cast, simprocAttr, hb, lk_old hb, dl_len, dl, Int.natCast_zero] <;> rfl)
  try simp only [keepL, setAll, push_cast, simprocAttr, hb, lk_old hb, dl_len]
  refine AW.seq_k fun K hK => ?_
  refine AW.region (by decide) ?_
  simp only [push_cast, simprocAttr, hb, lk_old hb, dl_len]
  refine Thn_n ?_
  refine hK _ _ ?_
  clear hK K
  refine AW.seq_k fun K hK => ?_
  refine AW.cond rfl (fun h17 => ?_) (fun h17 => ?_)
  · have hlt : i < n := by have := of_decide_eq_true h17; omega
    have c1 : (0 : Int) ≤ (i : Int) := by omega
    have c2 : (i : Int) < (n : Int) := by omega
    have c3 : i * 3 + 3 ≤ n * 3 := by omega
    have g0 := dl_get0 (G := G) hlt
    have g1 := dl_get1 (G := G) hlt
    have g2 := dl_get2 (G := G) hlt
    have gi := dl_len i G
    have q1 : i + 1 ≤ 140737488355328 := by omega
    have q2 : (i + 1) * 24 ≤ 140737488355328 := by omega
    refine AW.skip ?_
    refine Thn_n ?_
    refine hK _ _ ?_
    clear hK K
    refine AW.seq_k fun K hK => ?_
    refine AW.block ?_
    refine AW.seq_k fun K hK => ?_
    refine AW.region (by decide) ?_
    simp only [push_cast, simprocAttr, hb, lk_old hb, dl_len, c1, c2, c3, g0, g1, g2, gi, q1, q2]
    refine Thn_n ?_
    refine hK _ _ ?_
    clear hK K
    refine AW.draw [.val, .rd 0, .rd 0, .ext, .ext, .wr, .val, .wr] fol (by decide) (by kernel_rfl) ?_
    simp only [push_cast, simprocAttr, hb, lk_old hb, dl_len, c1, c2, c3, g0, g1, g2, gi, q1, q2]
    refine DCall.by0 (hueFrom_c _ _ _ _) ?_
    simp only [push_cast, simprocAttr, hb, lk_old hb, dl_len, c1, c2, c3, g0, g1, g2, gi, q1, q2]
    refine DExt.by (by first | rfl | (simp only [List.append_assoc, List.cons_append, List.nil_append]; rfl)) ?_
    simp only [push_cast, simprocAttr, hb, lk_old hb, dl_len, c1, c2, c3, g0, g1, g2, gi, q1, q2]
    refine InB_n ?_
    refine Thn_n ?_
    refine hK _ _ ?_
    clear hK K
    refine AW.region (by decide) ?_
    simp only [push_cast, simprocAttr, hb, lk_old hb, dl_len, c1, c2, c3, g0, g1, g2, gi, q1, q2]
    refine Thn_n ?_
    have hwi : IntKind.i64.wrap ((i:Int)+1) = (i:Int)+1 := wi (by omega)
    refine ⟨i + 1, by omega, by omega, ?_⟩
    try simp only [keepL, setAll, push_cast, simprocAttr, hb, lk_old hb, dl_len, c1, c2, c3, g0, g1, g2, gi, q1, q2, hwi, dl_snoc]
    exact Weak.to (extra := [_, _]) (by simp only [Keeps, Tm.get_cons, Nat.reduceEqDiff, ↓reduceIte, if_true, if_false, ite_true, ite_false, true_and, and_true, and_self, reduceCtorEq, hwi, dl_snoc]) (by first | rfl | (simp only [List.append_assoc, List.cons_append, List.nil_append]; rfl)) (by first | rfl | (simp [AV.below, CV.below, dl_below]; done) | (simp [AV.below, CV.below, dl_below]; omega)) (by
      first | exact hwf | refine MWf.app (hwf.grow (by simp)) ?_
      repeat (first | exact MWf_nil | (refine MWf_cons ?_ ?_; · first | rfl | (simp [CV.below, dl_below]; done) | (simp [CV.below, dl_below]; omega))))
  · have hin : n = i := by have := of_decide_eq_false h17; omega
    subst hin
    refine AW.exit ?_
    refine Thn_e ?_
    clear hK K
    refine Thn_e ?_
    refine InB_here ?_
    refine Thn_n ?_
    refine hK _ _ ?_
    clear hK K
    refine AW.seq_k fun K hK => ?_
    refine AW.region (by decide) ?_
    simp only [push_cast, simprocAttr, hb, lk_old hb, dl_len]
    refine Thn_n ?_
    refine hK _ _ ?_
    clear hK K
    refine AW.ret ?_
    refine hQ _ _ _ ?_
    refine RetP.pick [(m.length + 3, n)] (Or.inr rfl) ?_ ?_ ?_ hwf ?_
    · simp only [resA, resOne, resTv, AV.tv, push_cast, simprocAttr]
      simp [renV, renT, renL, renC, renIdx, hlt0]
    · simp only [picks, push_cast, simprocAttr]
    · simp [distinctFrom]
    · repeat (first | exact MWf_nil | (refine MWf_cons ?_ ?_; · first | exact dl_below _ _ _ | exact il_below _ _ _))
    
theorem fromSheet_n (W H : Int) (m : AMem) : Ctr Try.prog 25 [.agg [.int .i64 W, .int .i64 H, .nils]] m (.agg [.int .i64 W, .int .i64 H, .nils]) m := by
  refine Ctr.enter Try.func25 rfl (by decide) (rs := [.cell 2 24]) (nt := 29) rfl rfl fun hwf Q hQ => ?_
  iterate 2
    refine AW.seq_k fun K hK => ?_
    refine AW.region (by decide) ?_
    simp only [push_cast, simprocAttr]
    refine Thn_n ?_
    refine hK _ _ ?_
    clear hK K
  refine AW.seq_k fun K hK => ?_
  refine AW.seq_k fun K hK => ?_
  refine AW.region (by decide) ?_
  simp only [push_cast, simprocAttr]
  refine Thn_n ?_
  refine hK _ _ ?_
  clear hK K
  refine AW.block ?_
  refine AW.rounds 1 ?_
  refine ARounds.succ fun K hK => ?_
  refine AW.seq_k fun K hK => ?_
  refine AW.region (by decide) ?_
  simp only [push_cast, simprocAttr]
  refine Thn_n ?_
  refine hK _ _ ?_
  clear hK K
  refine AW.seq_k fun K hK => ?_
  refine AW.cond_f rfl ?_
  refine AW.exit ?_
  refine Thn_e ?_
  clear hK K
  refine Thn_e ?_
  clear hK K
  refine InB_here ?_
  refine Thn_n ?_
  refine hK _ _ ?_
  clear hK K
  refine AW.seq_k fun K hK => ?_
  refine AW.region (by decide) ?_
  simp only [push_cast, simprocAttr]
  refine Thn_n ?_
  refine hK _ _ ?_
  clear hK K
  refine AW.ret ?_
  refine hQ _ _ _ ?_
  first | refine RetP.drop0 (Or.inr rfl) ?_ ?_ hwf | refine RetP.drop (Or.inr rfl) ?_ ?_ hwf
  · simp only [resA, resOne, resTv, AV.tv, push_cast, simprocAttr]
  · rfl
theorem from_c (W H : Int) (rL vL rD vD rN vN rB vB rS vS rF vF n : Nat) (GL GN GB : Nat → Nat → Int) (fD : Nat → Int) (m : AMem) (hL : ∃ k ez, m[rL]? = some ⟨k, 68, vL, ez, dl n GL⟩) (hD : ∃ k ez, m[rD]? = some ⟨k, 66, vD, ez, il n fD⟩) (hN : ∃ k ez, m[rN]? = some ⟨k, 73, vN, ez, dl n GN⟩) (hB : ∃ k ez, m[rB]? = some ⟨k, 68, vB, ez, dl n GB⟩) (lS : rS < m.length) (lF : rF < m.length) (hn : n ≤ 1048576) : Ctr Try.prog 27 [.agg [.int .i64 W, .int .i64 H, .sl rL vL 0 n, .sl rD vD 0 n, .sl rN vN 0 n, .sl rB vB 0 n, .sl rS vS 0 n, .sl rF vF 0 n]] m (.agg [.int .i64 W, .int .i64 H, .sl m.length 0 0 n, .sl (m.length + 1) 0 0 n, .sl (m.length + 2) 0 0 n, .sl (m.length + 3) 0 0 n, .sl rS vS 0 n, .sl rF vF 0 n]) (m ++ [⟨.grow, 75, 0, 3, dl n GL⟩, ⟨.grow, 2, 0, 1, il n fD⟩, ⟨.grow, 71, 0, 3, dl n GN⟩, ⟨.grow, 75, 0, 3, dl n GB⟩]) := by
  refine Ctr.enter Try.func27 rfl (by decide) (rs := [.cell 2 29]) (nt := 63) rfl rfl fun hwf Q hQ => ?_
  obtain ⟨kL, eL, hLb⟩ := hL
  have lL := get_lt hLb
  obtain ⟨kD, eD, hDb⟩ := hD
  have lD := get_lt hDb
  obtain ⟨kN, eN, hNb⟩ := hN
  have lN := get_lt hNb
  obtain ⟨kB, eB, hBb⟩ := hB
  have lB := get_lt hBb
  have hlt0 : ∀ k, ¬ m.length + k < m.length := fun k => by omega
  refine AW.seq_k fun K hK => ?_
  refine AW.region (by decide) ?_
  simp only [push_cast, simprocAttr, hLb, lk_old hLb, hDb, lk_old hDb, hNb, lk_old hNb, hBb, lk_old hBb, dl_len, il_len]
  refine Thn_n ?_
  refine hK _ _ ?_
  clear hK K
  refine AW.seq_k fun K hK => ?_
  refine AW.draw [.val, .rd 0, .ext, .val, .rd 0, .val, .rd 0, .val, .fl, .wr] fol (by decide) (by kernel_rfl) ?_
  simp only [push_cast, simprocAttr, hLb, lk_old hLb, hDb, lk_old hDb, hNb, lk_old hNb, hBb, lk_old hBb, dl_len, il_len]
  refine DCall.by (fromSheet_c W H rL vL n GL _ ⟨_, _, lk_old hLb _⟩ hn) ?_
  simp only [push_cast, simprocAttr, hLb, lk_old hLb, hDb, lk_old hDb, hNb, lk_old hNb, hBb, lk_old hBb, dl_len, il_len]
  refine Thn_n ?_
  refine hK _ _ ?_
  clear hK K
  refine AW.seq_k fun K hK => ?_
  refine AW.seq_k fun K hK => ?_
  refine AW.region (by decide) ?_
  simp only [push_cast, simprocAttr, hLb, lk_old hLb, hDb, lk_old hDb, hNb, lk_old hNb, hBb, lk_old hBb, dl_len, il_len]
  refine Thn_n ?_
  refine hK _ _ ?_
  clear hK K
  refine AW.block ?_
  refine AW.nilCell 2 1 (m.length + 3) 3 (by simp only [push_cast, simprocAttr, hLb, lk_old hLb, hDb, lk_old hDb, hNb, lk_old hNb, hBb, lk_old hBb, dl_len, il_len]; first | done | rfl) (by intro e; cases e) rfl ?_
  try simp only [push_cast, simprocAttr, hLb, lk_old hLb, hDb, lk_old hDb, hNb, lk_old hNb, hBb, lk_old hBb, dl_len, il_len]
  refine AW.loopK [1, 2, 3, 19, 20] (fun i => i ≤ n) (fun i => [(21, .one (.int .i64 (i : Int)))]) (fun i => [(m.length + 3, ⟨.fix, 29, 0, 0, [.int .i64 W, .int .i64 H, .sl (m.length + 2) 0 0 n, .sl (m.length + 4) i 0 i, .nils, .nils, .sl rS vS 0 n, .sl rF vF 0 n]⟩), (m.length + 4, ⟨.grow, 2, i, 1, il i fD⟩)]) (fun i => n - i) 0 (by omega) ?_ ?_ fun i hi5 => ?_
  · first | rfl | (simp only [Keeps, Tm.get_cons, Nat.reduceEqDiff, ↓reduceIte, if_true, if_false, ite_true, ite_false, true_and, and_true, and_self, reduceCtorEq, dl, il, Int.natCast_zero] <;> rfl)
  · first | rfl | (simp only [setAll, push_cast, simprocAttr, hLb, lk_old hLb, hDb, lk_old hDb, hNb, lk_old hNb, hBb, lk_old hBb, dl_len, il_len, dl, il, Int.natCast_zero] <;> rfl)
  try simp only [keepL, setAll, push_cast, simprocAttr, hLb, lk_old hLb, hDb, lk_old hDb, hNb, lk_old hNb, hBb, lk_old hBb, dl_len, il_len]
  refine AW.seq_k fun K hK => ?_
  refine AW.region (by decide) ?_
  simp only [push_cast, simprocAttr, hLb, lk_old hLb, hDb, lk_old hDb, hNb, lk_old hNb, hBb, lk_old hBb, dl_len, il_len]
  refine Thn_n ?_
  refine hK _ _ ?_
  clear hK K
  refine AW.seq_k fun K hK => ?_
  refine AW.cond rfl (fun h22 => ?_) (fun h22 => ?_)
  · have hlt : i < n := by have := of_decide_eq_true h22; omega
    have c1 : (0 : Int) ≤ (i : Int) := by omega
    have c2 : (i : Int) < (n : Int) := by omega
    have g := il_get (f := fD) hlt
    have gi := il_len i fD
    have q1 : i + 1 ≤ 140737488355328 := by omega
    have q2 : (i + 1) * 8 ≤ 140737488355328 := by omega
    refine AW.skip ?_
    refine Thn_n ?_
    refine hK _ _ ?_
    clear hK K
    refine AW.seq_k fun K hK => ?_
    refine AW.block ?_
    refine AW.seq_k fun K hK => ?_
    refine AW.region (by decide) ?_
    simp only [push_cast, simprocAttr, hLb, lk_old hLb, hDb, lk_old hDb, hNb, lk_old hNb, hBb, lk_old hBb, dl_len, il_len, c1, c2, g, gi, q1, q2]
    refine Thn_n ?_
    refine hK _ _ ?_
    clear hK K
    refine AW.region (by decide) ?_
    simp only [push_cast, simprocAttr, hLb, lk_old hLb, hDb, lk_old hDb, hNb, lk_old hNb, hBb, lk_old hBb, dl_len, il_len, c1, c2, g, gi, q1, q2]
    refine InB_n ?_
    refine Thn_n ?_
    refine hK _ _ ?_
    clear hK K
    refine AW.region (by decide) ?_
    simp only [push_cast, simprocAttr, hLb, lk_old hLb, hDb, lk_old hDb, hNb, lk_old hNb, hBb, lk_old hBb, dl_len, il_len, c1, c2, g, gi, q1, q2]
    refine Thn_n ?_
    have hwi : IntKind.i64.wrap ((i:Int)+1) = (i:Int)+1 := wi (by omega)
    refine ⟨i + 1, by omega, by omega, ?_⟩
    try simp only [keepL, setAll, push_cast, simprocAttr, hLb, lk_old hLb, hDb, lk_old hDb, hNb, lk_old hNb, hBb, lk_old hBb, dl_len, il_len, c1, c2, g, gi, q1, q2, hwi, dl_snoc, il_snoc]
    exact Weak.to (extra := [_]) (by simp only [Keeps, Tm.get_cons, Nat.reduceEqDiff, ↓reduceIte, if_true, if_false, ite_true, ite_false, true_and, and_true, and_self, reduceCtorEq, hwi, dl_snoc, il_snoc]) (by first | rfl | (simp only [List.append_assoc, List.cons_append, List.nil_append]; rfl)) (by first | rfl | (simp [AV.below, CV.below, dl_below, il_below]; done) | (simp [AV.below, CV.below, dl_below, il_below]; omega)) (by
      first | exact hwf | refine MWf.app (hwf.grow (by simp)) ?_
      repeat (first | exact MWf_nil | (refine MWf_cons ?_ ?_; · first | rfl | (simp [CV.below, dl_below, il_below]; done) | (simp [CV.below, dl_below, il_below]; omega))))
  · have hin : n = i := by have := of_decide_eq_false h22; omega
    subst hin
    refine AW.exit ?_
    refine Thn_e ?_
    clear hK K
    refine Thn_e ?_
    refine InB_here ?_
    refine Thn_n ?_
    refine hK _ _ ?_
    clear hK K
    refine AW.seq_k fun K hK => ?_
    refine AW.seq_k fun K hK => ?_
    refine AW.region (by decide) ?_
    simp only [push_cast, simprocAttr, hLb, lk_old hLb, hDb, lk_old hDb, hNb, lk_old hNb, hBb, lk_old hBb, dl_len, il_len]
    refine Thn_n ?_
    refine hK _ _ ?_
    clear hK K
    refine AW.block ?_
    refine AW.nilCell 71 3 (m.length + 3) 4 (by simp only [push_cast, simprocAttr, hLb, lk_old hLb, hDb, lk_old hDb, hNb, lk_old hNb, hBb, lk_old hBb, dl_len, il_len]; first | done | rfl) (by intro e; cases e) rfl ?_
    try simp only [push_cast, simprocAttr, hLb, lk_old hLb, hDb, lk_old hDb, hNb, lk_old hNb, hBb, lk_old hBb, dl_len, il_len]
    refine AW.loopK [1, 2, 3, 33, 34] (fun i => i ≤ n) (fun i => [(35, .one (.int .i64 (i : Int)))]) (fun i => [(m.length + 3, ⟨.fix, 29, 0, 0, [.int .i64 W, .int .i64 H, .sl (m.length + 2) 0 0 n, .sl (m.length + 4) n 0 n, .sl (m.length + 5) i 0 i, .nils, .sl rS vS 0 n, .sl rF vF 0 n]⟩), (m.length + 5, ⟨.grow, 71, i, 3, dl i GN⟩)]) (fun i => n - i) 0 (by omega) ?_ ?_ fun i hi12 => ?_
    · first | rfl | (simp only [Keeps, Tm.get_cons, Nat.reduceEqDiff, ↓reduceIte, if_true, if_false, ite_true, ite_false, true_and, and_true, and_self, reduceCtorEq, dl, il, Int.natCast_zero] <;> rfl)
    · first | rfl | (simp only [setAll, push_cast, simprocAttr, hLb, lk_old hLb, hDb, lk_old hDb, hNb, lk_old hNb, hBb, lk_old hBb, dl_len, il_len, dl, il, Int.natCast_zero] <;> rfl)
    try simp only [keepL, setAll, push_cast, simprocAttr, hLb, lk_old hLb, hDb, lk_old hDb, hNb, lk_old hNb, hBb, lk_old hBb, dl_len, il_len]
    refine AW.seq_k fun K hK => ?_
    refine AW.region (by decide) ?_
    simp only [push_cast, simprocAttr, hLb, lk_old hLb, hDb, lk_old hDb, hNb, lk_old hNb, hBb, lk_old hBb, dl_len, il_len]
    refine Thn_n ?_
    refine hK _ _ ?_
    clear hK K
    refine AW.seq_k fun K hK => ?_
    refine AW.cond rfl (fun h36 => ?_) (fun h36 => ?_)
    · have hlt : i < n := by have := of_decide_eq_true h36; omega
      have c1 : (0 : Int) ≤ (i : Int) := by omega
      have c2 : (i : Int) < (n : Int) := by omega
      have c3 : i * 3 + 3 ≤ n * 3 := by omega
      have g0 := dl_get0 (G := GN) hlt
      have g1 := dl_get1 (G := GN) hlt
      have g2 := dl_get2 (G := GN) hlt
      have gi := dl_len i GN
      have q1 : i + 1 ≤ 140737488355328 := by omega
      have q2 : (i + 1) * 24 ≤ 140737488355328 := by omega
      refine AW.skip ?_
      refine Thn_n ?_
      refine hK _ _ ?_
      clear hK K
      refine AW.seq_k fun K hK => ?_
      refine AW.block ?_
      refine AW.seq_k fun K hK => ?_
      refine AW.region (by decide) ?_
      simp only [push_cast, simprocAttr, hLb, lk_old hLb, hDb, lk_old hDb, hNb, lk_old hNb, hBb, lk_old hBb, dl_len, il_len, c1, c2, c3, g0, g1, g2, gi, q1, q2]
      refine Thn_n ?_
      refine hK _ _ ?_
      clear hK K
      refine AW.draw [.val, .rd 0, .rd 0, .ext, .ext, .wr, .val, .wr] fol (by decide) (by kernel_rfl) ?_
      simp only [push_cast, simprocAttr, hLb, lk_old hLb, hDb, lk_old hDb, hNb, lk_old hNb, hBb, lk_old hBb, dl_len, il_len, c1, c2, c3, g0, g1, g2, gi, q1, q2]
      refine DCall.by0 (vecFrom_c _ _ _ _) ?_
      simp only [push_cast, simprocAttr, hLb, lk_old hLb, hDb, lk_old hDb, hNb, lk_old hNb, hBb, lk_old hBb, dl_len, il_len, c1, c2, c3, g0, g1, g2, gi, q1, q2]
      refine DExt.by (by first | rfl | (simp only [List.append_assoc, List.cons_append, List.nil_append]; rfl)) ?_
      simp only [push_cast, simprocAttr, hLb, lk_old hLb, hDb, lk_old hDb, hNb, lk_old hNb, hBb, lk_old hBb, dl_len, il_len, c1, c2, c3, g0, g1, g2, gi, q1, q2]
      refine InB_n ?_
      refine Thn_n ?_
      refine hK _ _ ?_
      clear hK K
      refine AW.region (by decide) ?_
      simp only [push_cast, simprocAttr, hLb, lk_old hLb, hDb, lk_old hDb, hNb, lk_old hNb, hBb, lk_old hBb, dl_len, il_len, c1, c2, c3, g0, g1, g2, gi, q1, q2]
      refine Thn_n ?_
      have hwi : IntKind.i64.wrap ((i:Int)+1) = (i:Int)+1 := wi (by omega)
      refine ⟨i + 1, by omega, by omega, ?_⟩
      try simp only [keepL, setAll, push_cast, simprocAttr, hLb, lk_old hLb, hDb, lk_old hDb, hNb, lk_old hNb, hBb, lk_old hBb, dl_len, il_len, c1, c2, c3, g0, g1, g2, gi, q1, q2, hwi, dl_snoc, il_snoc]
      exact Weak.to (extra := [_, _]) (by simp only [Keeps, Tm.get_cons, Nat.reduceEqDiff, ↓reduceIte, if_true, if_false, ite_true, ite_false, true_and, and_true, and_self, reduceCtorEq, hwi, dl_snoc, il_snoc]) (by first | rfl | (simp only [List.append_assoc, List.cons_append, List.nil_append]; rfl)) (by first | rfl | (simp [AV.below, CV.below, dl_below, il_below]; done) | (simp [AV.below, CV.below, dl_below, il_below]; omega)) (by
        first | exact hwf | refine MWf.app (hwf.grow (by simp)) ?_
        repeat (first | exact MWf_nil | (refine MWf_cons ?_ ?_; · first | rfl | (simp [CV.below, dl_below, il_below]; done) | (simp [CV.below, dl_below, il_below]; omega))))
    · have hin : n = i := by have := of_decide_eq_false h36; omega
      subst hin
      refine AW.exit ?_
      refine Thn_e ?_
      clear hK K
      refine Thn_e ?_
      refine InB_here ?_
      refine Thn_n ?_
      refine hK _ _ ?_
      clear hK K
      refine AW.seq_k fun K hK => ?_
      refine AW.seq_k fun K hK => ?_
      refine AW.region (by decide) ?_
      simp only [push_cast, simprocAttr, hLb, lk_old hLb, hDb, lk_old hDb, hNb, lk_old hNb, hBb, lk_old hBb, dl_len, il_len]
      refine Thn_n ?_
      refine hK _ _ ?_
      clear hK K
      refine AW.block ?_
      refine AW.nilCell 75 3 (m.length + 3) 5 (by simp only [push_cast, simprocAttr, hLb, lk_old hLb, hDb, lk_old hDb, hNb, lk_old hNb, hBb, lk_old hBb, dl_len, il_len]; first | done | rfl) (by intro e; cases e) rfl ?_
      try simp only [push_cast, simprocAttr, hLb, lk_old hLb, hDb, lk_old hDb, hNb, lk_old hNb, hBb, lk_old hBb, dl_len, il_len]
      refine AW.loopK [2, 3, 48, 49] (fun i => i ≤ n) (fun i => [(50, .one (.int .i64 (i : Int)))]) (fun i => [(m.length + 3, ⟨.fix, 29, 0, 0, [.int .i64 W, .int .i64 H, .sl (m.length + 2) 0 0 n, .sl (m.length + 4) n 0 n, .sl (m.length + 5) n 0 n, .sl (m.length + 6) i 0 i, .sl rS vS 0 n, .sl rF vF 0 n]⟩), (m.length + 6, ⟨.grow, 75, i, 3, dl i GB⟩)]) (fun i => n - i) 0 (by omega) ?_ ?_ fun i hi19 => ?_
      · first | rfl | (simp only [Keeps, Tm.get_cons, Nat.reduceEqDiff, ↓reduceIte, if_true, if_false, ite_true, ite_false, true_and, and_true, and_self, reduceCtorEq, dl, il, Int.natCast_zero] <;> rfl)
      · first | rfl | (simp only [setAll, push_cast, simprocAttr, hLb, lk_old hLb, hDb, lk_old hDb, hNb, lk_old hNb, hBb, lk_old hBb, dl_len, il_len, dl, il, Int.natCast_zero] <;> rfl)
      try simp only [keepL, setAll, push_cast, simprocAttr, hLb, lk_old hLb, hDb, lk_old hDb, hNb, lk_old hNb, hBb, lk_old hBb, dl_len, il_len]
      refine AW.seq_k fun K hK => ?_
      refine AW.region (by decide) ?_
      simp only [push_cast, simprocAttr, hLb, lk_old hLb, hDb, lk_old hDb, hNb, lk_old hNb, hBb, lk_old hBb, dl_len, il_len]
      refine Thn_n ?_
      refine hK _ _ ?_
      clear hK K
      refine AW.seq_k fun K hK => ?_
      refine AW.cond rfl (fun h51 => ?_) (fun h51 => ?_)
      · have hlt : i < n := by have := of_decide_eq_true h51; omega
        have c1 : (0 : Int) ≤ (i : Int) := by omega
        have c2 : (i : Int) < (n : Int) := by omega
        have c3 : i * 3 + 3 ≤ n * 3 := by omega
        have g0 := dl_get0 (G := GB) hlt
        have g1 := dl_get1 (G := GB) hlt
        have g2 := dl_get2 (G := GB) hlt
        have gi := dl_len i GB
        have q1 : i + 1 ≤ 140737488355328 := by omega
        have q2 : (i + 1) * 24 ≤ 140737488355328 := by omega
        refine AW.skip ?_
        refine Thn_n ?_
        refine hK _ _ ?_
        clear hK K
        refine AW.seq_k fun K hK => ?_
        refine AW.block ?_
        refine AW.seq_k fun K hK => ?_
        refine AW.region (by decide) ?_
        simp only [push_cast, simprocAttr, hLb, lk_old hLb, hDb, lk_old hDb, hNb, lk_old hNb, hBb, lk_old hBb, dl_len, il_len, c1, c2, c3, g0, g1, g2, gi, q1, q2]
        refine Thn_n ?_
        refine hK _ _ ?_
        clear hK K
        refine AW.draw [.val, .rd 0, .rd 0, .ext, .ext, .wr, .val, .wr] fol (by decide) (by kernel_rfl) ?_
        simp only [push_cast, simprocAttr, hLb, lk_old hLb, hDb, lk_old hDb, hNb, lk_old hNb, hBb, lk_old hBb, dl_len, il_len, c1, c2, c3, g0, g1, g2, gi, q1, q2]
        refine DCall.by0 (hueFrom_c _ _ _ _) ?_
        simp only [push_cast, simprocAttr, hLb, lk_old hLb, hDb, lk_old hDb, hNb, lk_old hNb, hBb, lk_old hBb, dl_len, il_len, c1, c2, c3, g0, g1, g2, gi, q1, q2]
        refine DExt.by (by first | rfl | (simp only [List.append_assoc, List.cons_append, List.nil_append]; rfl)) ?_
        simp only [push_cast, simprocAttr, hLb, lk_old hLb, hDb, lk_old hDb, hNb, lk_old hNb, hBb, lk_old hBb, dl_len, il_len, c1, c2, c3, g0, g1, g2, gi, q1, q2]
        refine InB_n ?_
        refine Thn_n ?_
        refine hK _ _ ?_
        clear hK K
        refine AW.region (by decide) ?_
        simp only [push_cast, simprocAttr, hLb, lk_old hLb, hDb, lk_old hDb, hNb, lk_old hNb, hBb, lk_old hBb, dl_len, il_len, c1, c2, c3, g0, g1, g2, gi, q1, q2]
        refine Thn_n ?_
        have hwi : IntKind.i64.wrap ((i:Int)+1) = (i:Int)+1 := wi (by omega)
        refine ⟨i + 1, by omega, by omega, ?_⟩
        try simp only [keepL, setAll, push_cast, simprocAttr, hLb, lk_old hLb, hDb, lk_old hDb, hNb, lk_old hNb, hBb, lk_old hBb, dl_len, il_len, c1, c2, c3, g0, g1, g2, gi, q1, q2, hwi, dl_snoc, il_snoc]
        exact Weak.to (extra := [_, _]) (by simp only [Keeps, Tm.get_cons, Nat.reduceEqDiff, ↓reduceIte, if_true, if_false, ite_true, ite_false, true_and, and_true, and_self, reduceCtorEq, hwi, dl_snoc, il_snoc]) (by first | rfl | (simp only [List.append_assoc, List.cons_append, List.nil_append]; rfl)) (by first | rfl | (simp [AV.below, CV.below, dl_below, il_below]; done) | (simp [AV.below, CV.below, dl_below, il_below]; omega)) (by
          first | exact hwf | refine MWf.app (hwf.grow (by simp)) ?_
          repeat (first | exact MWf_nil | (refine MWf_cons ?_ ?_; · first | rfl | (simp [CV.below, dl_below, il_below]; done) | (simp [CV.below, dl_below, il_below]; omega))))
      · have hin : n = i := by have := of_decide_eq_false h51; omega
        subst hin
        refine AW.exit ?_
        refine Thn_e ?_
        clear hK K
        refine Thn_e ?_
        refine InB_here ?_
        refine Thn_n ?_
        refine hK _ _ ?_
        clear hK K
        refine AW.seq_k fun K hK => ?_
        refine AW.region (by decide) ?_
        simp only [push_cast, simprocAttr, hLb, lk_old hLb, hDb, lk_old hDb, hNb, lk_old hNb, hBb, lk_old hBb, dl_len, il_len]
        refine Thn_n ?_
        refine hK _ _ ?_
        clear hK K
        refine AW.ret ?_
        refine hQ _ _ _ ?_
        refine RetP.pick [(m.length + 2, 0), (m.length + 4, n), (m.length + 5, n), (m.length + 6, n)] (Or.inr rfl) ?_ ?_ ?_ hwf ?_
        · simp only [resA, resOne, resTv, AV.tv, push_cast, simprocAttr]
          simp [renV, renT, renL, renC, renIdx, hlt0, lS, lF]
        · simp only [picks, push_cast, simprocAttr]
        · simp [distinctFrom]
        · repeat (first | exact MWf_nil | (refine MWf_cons ?_ ?_; · first | exact dl_below _ _ _ | exact il_below _ _ _))
        
theorem from_n (m : AMem) : Ctr Try.prog 27 [.agg [.int .i64 0, .int .i64 0, .nils, .nils, .nils, .nils, .nils, .nils]] m (.agg [.int .i64 0, .int .i64 0, .nils, .nils, .nils, .nils, .nils, .nils]) m := by
  refine Ctr.enter Try.func27 rfl (by decide) (rs := [.cell 2 29]) (nt := 63) rfl rfl fun hwf Q hQ => ?_
  refine AW.seq_k fun K hK => ?_
  refine AW.region (by decide) ?_
  simp only [push_cast, simprocAttr]
  refine Thn_n ?_
  refine hK _ _ ?_
  clear hK K
  refine AW.seq_k fun K hK => ?_
  refine AW.draw [.val, .rd 0, .ext, .val, .rd 0, .val, .rd 0, .val, .fl, .wr] fol (by decide) (by kernel_rfl) ?_
  simp only [push_cast, simprocAttr]
  refine DCall.by0 (fromSheet_n 0 0 _) ?_
  simp only [push_cast, simprocAttr]
  iterate 3
    refine Thn_n ?_
    refine hK _ _ ?_
    clear hK K
    refine AW.seq_k fun K hK => ?_
    refine AW.seq_k fun K hK => ?_
    refine AW.region (by decide) ?_
    simp only [push_cast, simprocAttr]
    refine Thn_n ?_
    refine hK _ _ ?_
    clear hK K
    refine AW.block ?_
    refine AW.rounds 1 ?_
    refine ARounds.succ fun K hK => ?_
    refine AW.seq_k fun K hK => ?_
    refine AW.region (by decide) ?_
    simp only [push_cast, simprocAttr]
    refine Thn_n ?_
    refine hK _ _ ?_
    clear hK K
    refine AW.seq_k fun K hK => ?_
    refine AW.cond_f rfl ?_
    refine AW.exit ?_
    refine Thn_e ?_
    clear hK K
    refine Thn_e ?_
    clear hK K
    refine InB_here ?_
  refine Thn_n ?_
  refine hK _ _ ?_
  clear hK K
  refine AW.seq_k fun K hK => ?_
  refine AW.region (by decide) ?_
  simp only [push_cast, simprocAttr]
  refine Thn_n ?_
  refine hK _ _ ?_
  clear hK K
  refine AW.ret ?_
  refine hQ _ _ _ ?_
  first | refine RetP.drop0 (Or.inr rfl) ?_ ?_ hwf | refine RetP.drop (Or.inr rfl) ?_ ?_ hwf
  · simp only [resA, resOne, resTv, AV.tv, push_cast, simprocAttr]
  · rfl
theorem sameSheet_c (W H : Int) (r1 v1 r2 v2 n : Nat) (G : Nat → Nat → Int) (m : AMem) (h1 : ∃ k ez, m[r1]? = some ⟨k, 75, v1, ez, dl n G⟩) (h2 : ∃ k ez, m[r2]? = some ⟨k, 75, v2, ez, dl n G⟩) (hn : n ≤ 1048576) : Ctr Try.prog 24 [.agg [.int .i64 W, .int .i64 H, .sl r1 v1 0 n], .agg [.int .i64 W, .int .i64 H, .sl r2 v2 0 n]] m (.one (.bool true)) m := by
  refine Ctr.enter Try.func24 rfl (by decide) (rs := [.tmp 4]) (nt := 45) rfl rfl fun hwf Q hQ => ?_
  obtain ⟨k1, e1, hb1⟩ := h1
  obtain ⟨k2, e2, hb2⟩ := h2
  refine AW.seq_k fun K hK => ?_
  refine AW.region (by decide) ?_
  simp only [push_cast, simprocAttr, hb1, lk_old hb1, hb2, lk_old hb2, dl_len, bne_self_eq_false]
  refine Thn_n ?_
  refine hK _ _ ?_
  clear hK K
  refine AW.seq_k fun K hK => ?_
  refine AW.seq_k fun K hK => ?_
  refine AW.region (by decide) ?_
  simp only [push_cast, simprocAttr, hb1, lk_old hb1, hb2, lk_old hb2, dl_len, bne_self_eq_false]
  refine Thn_n ?_
  refine hK _ _ ?_
  clear hK K
  refine AW.cond_f rfl ?_
  refine AW.skip ?_
  refine Thn_n ?_
  refine hK _ _ ?_
  clear hK K
  refine AW.seq_k fun K hK => ?_
  refine AW.seq_k fun K hK => ?_
  refine AW.region (by decide) ?_
  simp only [push_cast, simprocAttr, hb1, lk_old hb1, hb2, lk_old hb2, dl_len, bne_self_eq_false]
  refine Thn_n ?_
  refine hK _ _ ?_
  clear hK K
  refine AW.block ?_
  refine AW.loopK [2, 3] (fun i => i ≤ n) (fun i => [(5, .one (.int .i64 (i : Int)))]) (fun i => []) (fun i => n - i) 0 (by omega) ?_ ?_ fun i hi6 => ?_
  · first | rfl | (simp only [Keeps, Tm.get_cons, Nat.reduceEqDiff, ↓reduceIte, if_true, if_false, ite_true, ite_false, true_and, and_true, and_self, reduceCtorEq] <;> rfl)
  · first | rfl | (simp only [setAll, push_cast, simprocAttr, hb1, lk_old hb1, hb2, lk_old hb2, dl_len, bne_self_eq_false] <;> rfl)
  try simp only [keepL, setAll, push_cast, simprocAttr, hb1, lk_old hb1, hb2, lk_old hb2, dl_len, bne_self_eq_false]
  refine AW.seq_k fun K hK => ?_
  refine AW.seq_k fun K hK => ?_
  refine AW.region (by decide) ?_
  simp only [push_cast, simprocAttr, hb1, lk_old hb1, hb2, lk_old hb2, dl_len, bne_self_eq_false]
  refine Thn_n ?_
  refine hK _ _ ?_
  clear hK K
  refine AW.cond rfl (fun h31 => ?_) (fun h31 => ?_)
  · have hlt : i < n := by have := of_decide_eq_true h31; omega
    have c1 : (0 : Int) ≤ (i : Int) := by omega
    have c2 : (i : Int) < (n : Int) := by omega
    have c3 : i * 3 + 3 ≤ n * 3 := by omega
    have g0 := dl_get0 (G := G) hlt
    have g1 := dl_get1 (G := G) hlt
    have g2 := dl_get2 (G := G) hlt
    refine AW.skip ?_
    refine Thn_n ?_
    refine hK _ _ ?_
    clear hK K
    refine AW.seq_k fun K hK => ?_
    refine AW.block ?_
    refine AW.seq_k fun K hK => ?_
    refine AW.draw [.val, .rd 0, .val, .val, .rd 0, .val, .rd 0, .val, .val, .rd 0, .val] fol (by decide) (by kernel_rfl) ?_
    simp only [push_cast, simprocAttr, hb1, lk_old hb1, hb2, lk_old hb2, dl_len, bne_self_eq_false, c1, c2, c3, g0, g1, g2]
    refine Thn_n ?_
    refine hK _ _ ?_
    clear hK K
    refine AW.cond_f rfl ?_
    refine AW.skip ?_
    refine InB_n ?_
    refine Thn_n ?_
    refine hK _ _ ?_
    clear hK K
    refine AW.region (by decide) ?_
    simp only [push_cast, simprocAttr, hb1, lk_old hb1, hb2, lk_old hb2, dl_len, bne_self_eq_false, c1, c2, c3, g0, g1, g2]
    refine Thn_n ?_
    have hwi : IntKind.i64.wrap ((i:Int)+1) = (i:Int)+1 := wi (by omega)
    refine ⟨i + 1, by omega, by omega, ?_⟩
    try simp only [keepL, setAll, push_cast, simprocAttr, hb1, lk_old hb1, hb2, lk_old hb2, dl_len, bne_self_eq_false, c1, c2, c3, g0, g1, g2, hwi]
    exact Weak.same (by simp only [Keeps, Tm.get_cons, Nat.reduceEqDiff, ↓reduceIte, if_true, if_false, ite_true, ite_false, true_and, and_true, and_self, reduceCtorEq, hwi]) (by first | rfl | simp only [Keeps, Tm.get_cons, Nat.reduceEqDiff, ↓reduceIte, if_true, if_false, ite_true, ite_false, true_and, and_true, and_self, reduceCtorEq, hwi])
  · have hin : n = i := by have := of_decide_eq_false h31; omega
    subst hin
    refine AW.exit ?_
    refine Thn_e ?_
    clear hK K
    refine Thn_e ?_
    refine InB_here ?_
    refine Thn_n ?_
    refine hK _ _ ?_
    clear hK K
    refine AW.seq_k fun K hK => ?_
    refine AW.region (by decide) ?_
    simp only [push_cast, simprocAttr, hb1, lk_old hb1, hb2, lk_old hb2, dl_len, bne_self_eq_false]
    refine Thn_n ?_
    refine hK _ _ ?_
    clear hK K
    refine AW.ret ?_
    refine hQ _ _ _ ?_
    first | refine RetP.drop0 (Or.inr rfl) ?_ ?_ hwf | refine RetP.drop (Or.inr rfl) ?_ ?_ hwf
    · simp only [resA, resOne, resTv, AV.tv, push_cast, simprocAttr, hb1, lk_old hb1, hb2, lk_old hb2, dl_len, bne_self_eq_false]
    · rfl
theorem sameSheet_n (W H : Int) (m : AMem) : Ctr Try.prog 24 [.agg [.int .i64 W, .int .i64 H, .nils], .agg [.int .i64 W, .int .i64 H, .nils]] m (.one (.bool true)) m := by
  refine Ctr.enter Try.func24 rfl (by decide) (rs := [.tmp 4]) (nt := 45) rfl rfl fun hwf Q hQ => ?_
  refine AW.seq_k fun K hK => ?_
  refine AW.region (by decide) ?_
  simp only [push_cast, simprocAttr, bne_self_eq_false]
  refine Thn_n ?_
  refine hK _ _ ?_
  clear hK K
  refine AW.seq_k fun K hK => ?_
  refine AW.seq_k fun K hK => ?_
  refine AW.region (by decide) ?_
  simp only [push_cast, simprocAttr, bne_self_eq_false]
  refine Thn_n ?_
  refine hK _ _ ?_
  clear hK K
  refine AW.cond_f rfl ?_
  refine AW.skip ?_
  refine Thn_n ?_
  refine hK _ _ ?_
  clear hK K
  refine AW.seq_k fun K hK => ?_
  refine AW.seq_k fun K hK => ?_
  refine AW.region (by decide) ?_
  simp only [push_cast, simprocAttr, bne_self_eq_false]
  refine Thn_n ?_
  refine hK _ _ ?_
  clear hK K
  refine AW.block ?_
  refine AW.rounds 1 ?_
  refine ARounds.succ fun K hK => ?_
  refine AW.seq_k fun K hK => ?_
  refine AW.seq_k fun K hK => ?_
  refine AW.region (by decide) ?_
  simp only [push_cast, simprocAttr, bne_self_eq_false]
  refine Thn_n ?_
  refine hK _ _ ?_
  clear hK K
  refine AW.cond_f rfl ?_
  refine AW.exit ?_
  refine Thn_e ?_
  clear hK K
  refine Thn_e ?_
  clear hK K
  refine InB_here ?_
  refine Thn_n ?_
  refine hK _ _ ?_
  clear hK K
  refine AW.seq_k fun K hK => ?_
  refine AW.region (by decide) ?_
  simp only [push_cast, simprocAttr, bne_self_eq_false]
  refine Thn_n ?_
  refine hK _ _ ?_
  clear hK K
  refine AW.ret ?_
  refine hQ _ _ _ ?_
  first | refine RetP.drop0 (Or.inr rfl) ?_ ?_ hwf | refine RetP.drop (Or.inr rfl) ?_ ?_ hwf
  · simp only [resA, resOne, resTv, AV.tv, push_cast, simprocAttr, bne_self_eq_false]
  · rfl
theorem same_c (W H : Int) (rL1 vL1 rD1 vD1 rN1 vN1 rB1 vB1 rS1 vS1 rF1 vF1 rL2 vL2 rD2 vD2 rN2 vN2 rB2 vB2 rS2 vS2 rF2 vF2 n : Nat) (GL GN GB : Nat → Nat → Int) (fD fS fF : Nat → Int) (m : AMem) (hL1 : ∃ k ez, m[rL1]? = some ⟨k, 75, vL1, ez, dl n GL⟩) (hD1 : ∃ k ez, m[rD1]? = some ⟨k, 2, vD1, ez, il n fD⟩) (hN1 : ∃ k ez, m[rN1]? = some ⟨k, 71, vN1, ez, dl n GN⟩) (hB1 : ∃ k ez, m[rB1]? = some ⟨k, 75, vB1, ez, dl n GB⟩) (hS1 : ∃ k ez, m[rS1]? = some ⟨k, 3, vS1, ez, il n fS⟩) (hF1 : ∃ k ez, m[rF1]? = some ⟨k, 3, vF1, ez, il n fF⟩) (hL2 : ∃ k ez, m[rL2]? = some ⟨k, 75, vL2, ez, dl n GL⟩) (hD2 : ∃ k ez, m[rD2]? = some ⟨k, 2, vD2, ez, il n fD⟩) (hN2 : ∃ k ez, m[rN2]? = some ⟨k, 71, vN2, ez, dl n GN⟩) (hB2 : ∃ k ez, m[rB2]? = some ⟨k, 75, vB2, ez, dl n GB⟩) (hS2 : ∃ k ez, m[rS2]? = some ⟨k, 3, vS2, ez, il n fS⟩) (hF2 : ∃ k ez, m[rF2]? = some ⟨k, 3, vF2, ez, il n fF⟩) (hn : n ≤ 1048576) : Ctr Try.prog 26 [.agg [.int .i64 W, .int .i64 H, .sl rL1 vL1 0 n, .sl rD1 vD1 0 n, .sl rN1 vN1 0 n, .sl rB1 vB1 0 n, .sl rS1 vS1 0 n, .sl rF1 vF1 0 n], .agg [.int .i64 W, .int .i64 H, .sl rL2 vL2 0 n, .sl rD2 vD2 0 n, .sl rN2 vN2 0 n, .sl rB2 vB2 0 n, .sl rS2 vS2 0 n, .sl rF2 vF2 0 n]] m (.one (.bool true)) m := by
  refine Ctr.enter Try.func26 rfl (by decide) (rs := [.tmp 4]) (nt := 151) rfl rfl fun hwf Q hQ => ?_
  obtain ⟨kL1, eL1, bL1⟩ := id hL1
  obtain ⟨kD1, eD1, bD1⟩ := id hD1
  obtain ⟨kN1, eN1, bN1⟩ := id hN1
  obtain ⟨kB1, eB1, bB1⟩ := id hB1
  obtain ⟨kS1, eS1, bS1⟩ := id hS1
  obtain ⟨kF1, eF1, bF1⟩ := id hF1
  obtain ⟨kL2, eL2, bL2⟩ := id hL2
  obtain ⟨kD2, eD2, bD2⟩ := id hD2
  obtain ⟨kN2, eN2, bN2⟩ := id hN2
  obtain ⟨kB2, eB2, bB2⟩ := id hB2
  obtain ⟨kS2, eS2, bS2⟩ := id hS2
  obtain ⟨kF2, eF2, bF2⟩ := id hF2
  
  refine AW.seq_k fun K hK => ?_
  refine AW.region (by decide) ?_
  simp only [push_cast, simprocAttr, bL1, lk_old bL1, bD1, lk_old bD1, bN1, lk_old bN1, bB1, lk_old bB1, bS1, lk_old bS1, bF1, lk_old bF1, bL2, lk_old bL2, bD2, lk_old bD2, bN2, lk_old bN2, bB2, lk_old bB2, bS2, lk_old bS2, bF2, lk_old bF2, dl_len, il_len, bne_self_eq_false]
  refine Thn_n ?_
  refine hK _ _ ?_
  clear hK K
  refine AW.seq_k fun K hK => ?_
  refine AW.seq_k fun K hK => ?_
  refine AW.region (by decide) ?_
  simp only [push_cast, simprocAttr, bL1, lk_old bL1, bD1, lk_old bD1, bN1, lk_old bN1, bB1, lk_old bB1, bS1, lk_old bS1, bF1, lk_old bF1, bL2, lk_old bL2, bD2, lk_old bD2, bN2, lk_old bN2, bB2, lk_old bB2, bS2, lk_old bS2, bF2, lk_old bF2, dl_len, il_len, bne_self_eq_false]
  refine CThen.by (sameSheet_c W H rL1 vL1 rL2 vL2 n GL _ ⟨_, _, lk_old bL1 _⟩ ⟨_, _, lk_old bL2 _⟩ hn) ?_
  simp only [push_cast, simprocAttr, bL1, lk_old bL1, bD1, lk_old bD1, bN1, lk_old bN1, bB1, lk_old bB1, bS1, lk_old bS1, bF1, lk_old bF1, bL2, lk_old bL2, bD2, lk_old bD2, bN2, lk_old bN2, bB2, lk_old bB2, bS2, lk_old bS2, bF2, lk_old bF2, dl_len, il_len, bne_self_eq_false]
  refine Thn_n ?_
  refine hK _ _ ?_
  clear hK K
  refine AW.cond_f rfl ?_
  refine AW.skip ?_
  refine Thn_n ?_
  refine hK _ _ ?_
  clear hK K
  refine AW.seq_k fun K hK => ?_
  refine AW.seq_k fun K hK => ?_
  refine AW.region (by decide) ?_
  simp only [push_cast, simprocAttr, bL1, lk_old bL1, bD1, lk_old bD1, bN1, lk_old bN1, bB1, lk_old bB1, bS1, lk_old bS1, bF1, lk_old bF1, bL2, lk_old bL2, bD2, lk_old bD2, bN2, lk_old bN2, bB2, lk_old bB2, bS2, lk_old bS2, bF2, lk_old bF2, dl_len, il_len, bne_self_eq_false]
  refine Thn_n ?_
  refine hK _ _ ?_
  clear hK K
  refine AW.block ?_
  refine AW.loopK [2, 3] (fun i => i ≤ n) (fun i => [(5, .one (.int .i64 (i : Int)))]) (fun i => []) (fun i => n - i) 0 (by omega) ?_ ?_ fun i hi6 => ?_
  · first | rfl | (simp only [Keeps, Tm.get_cons, Nat.reduceEqDiff, ↓reduceIte, if_true, if_false, ite_true, ite_false, true_and, and_true, and_self, reduceCtorEq] <;> rfl)
  · first | rfl | (simp only [setAll, push_cast, simprocAttr, bL1, lk_old bL1, bD1, lk_old bD1, bN1, lk_old bN1, bB1, lk_old bB1, bS1, lk_old bS1, bF1, lk_old bF1, bL2, lk_old bL2, bD2, lk_old bD2, bN2, lk_old bN2, bB2, lk_old bB2, bS2, lk_old bS2, bF2, lk_old bF2, dl_len, il_len, bne_self_eq_false] <;> rfl)
  try simp only [keepL, setAll, push_cast, simprocAttr, bL1, lk_old bL1, bD1, lk_old bD1, bN1, lk_old bN1, bB1, lk_old bB1, bS1, lk_old bS1, bF1, lk_old bF1, bL2, lk_old bL2, bD2, lk_old bD2, bN2, lk_old bN2, bB2, lk_old bB2, bS2, lk_old bS2, bF2, lk_old bF2, dl_len, il_len, bne_self_eq_false]
  refine AW.seq_k fun K hK => ?_
  refine AW.seq_k fun K hK => ?_
  refine AW.region (by decide) ?_
  simp only [push_cast, simprocAttr, bL1, lk_old bL1, bD1, lk_old bD1, bN1, lk_old bN1, bB1, lk_old bB1, bS1, lk_old bS1, bF1, lk_old bF1, bL2, lk_old bL2, bD2, lk_old bD2, bN2, lk_old bN2, bB2, lk_old bB2, bS2, lk_old bS2, bF2, lk_old bF2, dl_len, il_len, bne_self_eq_false]
  refine Thn_n ?_
  refine hK _ _ ?_
  clear hK K
  refine AW.cond rfl (fun h65 => ?_) (fun h65 => ?_)
  · have hlt : i < n := by have := of_decide_eq_true h65; omega
    have c1 : (0 : Int) ≤ (i : Int) := by omega
    have c2 : (i : Int) < (n : Int) := by omega
    have g := il_get (f := fD) hlt
    refine AW.skip ?_
    refine Thn_n ?_
    refine hK _ _ ?_
    clear hK K
    refine AW.seq_k fun K hK => ?_
    refine AW.block ?_
    refine AW.seq_k fun K hK => ?_
    refine AW.draw [.val, .rd 0, .val, .val, .rd 0, .val, .rd 0, .val, .val, .rd 0, .val] fol (by decide) (by kernel_rfl) ?_
    simp only [push_cast, simprocAttr, bL1, lk_old bL1, bD1, lk_old bD1, bN1, lk_old bN1, bB1, lk_old bB1, bS1, lk_old bS1, bF1, lk_old bF1, bL2, lk_old bL2, bD2, lk_old bD2, bN2, lk_old bN2, bB2, lk_old bB2, bS2, lk_old bS2, bF2, lk_old bF2, dl_len, il_len, bne_self_eq_false, c1, c2, g]
    refine Thn_n ?_
    refine hK _ _ ?_
    clear hK K
    refine AW.cond_f rfl ?_
    refine AW.skip ?_
    refine InB_n ?_
    refine Thn_n ?_
    refine hK _ _ ?_
    clear hK K
    refine AW.region (by decide) ?_
    simp only [push_cast, simprocAttr, bL1, lk_old bL1, bD1, lk_old bD1, bN1, lk_old bN1, bB1, lk_old bB1, bS1, lk_old bS1, bF1, lk_old bF1, bL2, lk_old bL2, bD2, lk_old bD2, bN2, lk_old bN2, bB2, lk_old bB2, bS2, lk_old bS2, bF2, lk_old bF2, dl_len, il_len, bne_self_eq_false, c1, c2, g]
    refine Thn_n ?_
    have hwi : IntKind.i64.wrap ((i:Int)+1) = (i:Int)+1 := wi (by omega)
    refine ⟨i + 1, by omega, by omega, ?_⟩
    try simp only [keepL, setAll, push_cast, simprocAttr, bL1, lk_old bL1, bD1, lk_old bD1, bN1, lk_old bN1, bB1, lk_old bB1, bS1, lk_old bS1, bF1, lk_old bF1, bL2, lk_old bL2, bD2, lk_old bD2, bN2, lk_old bN2, bB2, lk_old bB2, bS2, lk_old bS2, bF2, lk_old bF2, dl_len, il_len, bne_self_eq_false, c1, c2, g, hwi]
    exact Weak.same (by simp only [Keeps, Tm.get_cons, Nat.reduceEqDiff, ↓reduceIte, if_true, if_false, ite_true, ite_false, true_and, and_true, and_self, reduceCtorEq, hwi]) (by first | rfl | simp only [Keeps, Tm.get_cons, Nat.reduceEqDiff, ↓reduceIte, if_true, if_false, ite_true, ite_false, true_and, and_true, and_self, reduceCtorEq, hwi])
  · have hin : n = i := by have := of_decide_eq_false h65; omega
    subst hin
    refine AW.exit ?_
    refine Thn_e ?_
    clear hK K
    refine Thn_e ?_
    refine InB_here ?_
    refine Thn_n ?_
    refine hK _ _ ?_
    clear hK K
    refine AW.seq_k fun K hK => ?_
    refine AW.seq_k fun K hK => ?_
    refine AW.region (by decide) ?_
    simp only [push_cast, simprocAttr, bL1, lk_old bL1, bD1, lk_old bD1, bN1, lk_old bN1, bB1, lk_old bB1, bS1, lk_old bS1, bF1, lk_old bF1, bL2, lk_old bL2, bD2, lk_old bD2, bN2, lk_old bN2, bB2, lk_old bB2, bS2, lk_old bS2, bF2, lk_old bF2, dl_len, il_len, bne_self_eq_false]
    refine Thn_n ?_
    refine hK _ _ ?_
    clear hK K
    refine AW.block ?_
    refine AW.loopK [2, 3] (fun i => i ≤ n) (fun i => [(6, .one (.int .i64 (i : Int)))]) (fun i => []) (fun i => n - i) 0 (by omega) ?_ ?_ fun i hi13 => ?_
    · first | rfl | (simp only [Keeps, Tm.get_cons, Nat.reduceEqDiff, ↓reduceIte, if_true, if_false, ite_true, ite_false, true_and, and_true, and_self, reduceCtorEq] <;> rfl)
    · first | rfl | (simp only [setAll, push_cast, simprocAttr, bL1, lk_old bL1, bD1, lk_old bD1, bN1, lk_old bN1, bB1, lk_old bB1, bS1, lk_old bS1, bF1, lk_old bF1, bL2, lk_old bL2, bD2, lk_old bD2, bN2, lk_old bN2, bB2, lk_old bB2, bS2, lk_old bS2, bF2, lk_old bF2, dl_len, il_len, bne_self_eq_false] <;> rfl)
    try simp only [keepL, setAll, push_cast, simprocAttr, bL1, lk_old bL1, bD1, lk_old bD1, bN1, lk_old bN1, bB1, lk_old bB1, bS1, lk_old bS1, bF1, lk_old bF1, bL2, lk_old bL2, bD2, lk_old bD2, bN2, lk_old bN2, bB2, lk_old bB2, bS2, lk_old bS2, bF2, lk_old bF2, dl_len, il_len, bne_self_eq_false]
    refine AW.seq_k fun K hK => ?_
    refine AW.seq_k fun K hK => ?_
    refine AW.region (by decide) ?_
    simp only [push_cast, simprocAttr, bL1, lk_old bL1, bD1, lk_old bD1, bN1, lk_old bN1, bB1, lk_old bB1, bS1, lk_old bS1, bF1, lk_old bF1, bL2, lk_old bL2, bD2, lk_old bD2, bN2, lk_old bN2, bB2, lk_old bB2, bS2, lk_old bS2, bF2, lk_old bF2, dl_len, il_len, bne_self_eq_false]
    refine Thn_n ?_
    refine hK _ _ ?_
    clear hK K
    refine AW.cond rfl (fun h83 => ?_) (fun h83 => ?_)
    · have hlt : i < n := by have := of_decide_eq_true h83; omega
      have c1 : (0 : Int) ≤ (i : Int) := by omega
      have c2 : (i : Int) < (n : Int) := by omega
      have c3 : i * 3 + 3 ≤ n * 3 := by omega
      have g0 := dl_get0 (G := GN) hlt
      have g1 := dl_get1 (G := GN) hlt
      have g2 := dl_get2 (G := GN) hlt
      refine AW.skip ?_
      refine Thn_n ?_
      refine hK _ _ ?_
      clear hK K
      refine AW.seq_k fun K hK => ?_
      refine AW.block ?_
      refine AW.seq_k fun K hK => ?_
      refine AW.draw [.val, .rd 0, .val, .val, .rd 0, .val, .rd 0, .val, .val, .rd 0, .val] fol (by decide) (by kernel_rfl) ?_
      simp only [push_cast, simprocAttr, bL1, lk_old bL1, bD1, lk_old bD1, bN1, lk_old bN1, bB1, lk_old bB1, bS1, lk_old bS1, bF1, lk_old bF1, bL2, lk_old bL2, bD2, lk_old bD2, bN2, lk_old bN2, bB2, lk_old bB2, bS2, lk_old bS2, bF2, lk_old bF2, dl_len, il_len, bne_self_eq_false, c1, c2, c3, g0, g1, g2]
      refine Thn_n ?_
      refine hK _ _ ?_
      clear hK K
      refine AW.cond_f rfl ?_
      refine AW.skip ?_
      refine InB_n ?_
      refine Thn_n ?_
      refine hK _ _ ?_
      clear hK K
      refine AW.region (by decide) ?_
      simp only [push_cast, simprocAttr, bL1, lk_old bL1, bD1, lk_old bD1, bN1, lk_old bN1, bB1, lk_old bB1, bS1, lk_old bS1, bF1, lk_old bF1, bL2, lk_old bL2, bD2, lk_old bD2, bN2, lk_old bN2, bB2, lk_old bB2, bS2, lk_old bS2, bF2, lk_old bF2, dl_len, il_len, bne_self_eq_false, c1, c2, c3, g0, g1, g2]
      refine Thn_n ?_
      have hwi : IntKind.i64.wrap ((i:Int)+1) = (i:Int)+1 := wi (by omega)
      refine ⟨i + 1, by omega, by omega, ?_⟩
      try simp only [keepL, setAll, push_cast, simprocAttr, bL1, lk_old bL1, bD1, lk_old bD1, bN1, lk_old bN1, bB1, lk_old bB1, bS1, lk_old bS1, bF1, lk_old bF1, bL2, lk_old bL2, bD2, lk_old bD2, bN2, lk_old bN2, bB2, lk_old bB2, bS2, lk_old bS2, bF2, lk_old bF2, dl_len, il_len, bne_self_eq_false, c1, c2, c3, g0, g1, g2, hwi]
      exact Weak.same (by simp only [Keeps, Tm.get_cons, Nat.reduceEqDiff, ↓reduceIte, if_true, if_false, ite_true, ite_false, true_and, and_true, and_self, reduceCtorEq, hwi]) (by first | rfl | simp only [Keeps, Tm.get_cons, Nat.reduceEqDiff, ↓reduceIte, if_true, if_false, ite_true, ite_false, true_and, and_true, and_self, reduceCtorEq, hwi])
    · have hin : n = i := by have := of_decide_eq_false h83; omega
      subst hin
      refine AW.exit ?_
      refine Thn_e ?_
      clear hK K
      refine Thn_e ?_
      refine InB_here ?_
      refine Thn_n ?_
      refine hK _ _ ?_
      clear hK K
      refine AW.seq_k fun K hK => ?_
      refine AW.seq_k fun K hK => ?_
      refine AW.region (by decide) ?_
      simp only [push_cast, simprocAttr, bL1, lk_old bL1, bD1, lk_old bD1, bN1, lk_old bN1, bB1, lk_old bB1, bS1, lk_old bS1, bF1, lk_old bF1, bL2, lk_old bL2, bD2, lk_old bD2, bN2, lk_old bN2, bB2, lk_old bB2, bS2, lk_old bS2, bF2, lk_old bF2, dl_len, il_len, bne_self_eq_false]
      refine Thn_n ?_
      refine hK _ _ ?_
      clear hK K
      refine AW.block ?_
      refine AW.loopK [2, 3] (fun i => i ≤ n) (fun i => [(7, .one (.int .i64 (i : Int)))]) (fun i => []) (fun i => n - i) 0 (by omega) ?_ ?_ fun i hi20 => ?_
      · first | rfl | (simp only [Keeps, Tm.get_cons, Nat.reduceEqDiff, ↓reduceIte, if_true, if_false, ite_true, ite_false, true_and, and_true, and_self, reduceCtorEq] <;> rfl)
      · first | rfl | (simp only [setAll, push_cast, simprocAttr, bL1, lk_old bL1, bD1, lk_old bD1, bN1, lk_old bN1, bB1, lk_old bB1, bS1, lk_old bS1, bF1, lk_old bF1, bL2, lk_old bL2, bD2, lk_old bD2, bN2, lk_old bN2, bB2, lk_old bB2, bS2, lk_old bS2, bF2, lk_old bF2, dl_len, il_len, bne_self_eq_false] <;> rfl)
      try simp only [keepL, setAll, push_cast, simprocAttr, bL1, lk_old bL1, bD1, lk_old bD1, bN1, lk_old bN1, bB1, lk_old bB1, bS1, lk_old bS1, bF1, lk_old bF1, bL2, lk_old bL2, bD2, lk_old bD2, bN2, lk_old bN2, bB2, lk_old bB2, bS2, lk_old bS2, bF2, lk_old bF2, dl_len, il_len, bne_self_eq_false]
      refine AW.seq_k fun K hK => ?_
      refine AW.seq_k fun K hK => ?_
      refine AW.region (by decide) ?_
      simp only [push_cast, simprocAttr, bL1, lk_old bL1, bD1, lk_old bD1, bN1, lk_old bN1, bB1, lk_old bB1, bS1, lk_old bS1, bF1, lk_old bF1, bL2, lk_old bL2, bD2, lk_old bD2, bN2, lk_old bN2, bB2, lk_old bB2, bS2, lk_old bS2, bF2, lk_old bF2, dl_len, il_len, bne_self_eq_false]
      refine Thn_n ?_
      refine hK _ _ ?_
      clear hK K
      refine AW.cond rfl (fun h101 => ?_) (fun h101 => ?_)
      · have hlt : i < n := by have := of_decide_eq_true h101; omega
        have c1 : (0 : Int) ≤ (i : Int) := by omega
        have c2 : (i : Int) < (n : Int) := by omega
        have c3 : i * 3 + 3 ≤ n * 3 := by omega
        have g0 := dl_get0 (G := GB) hlt
        have g1 := dl_get1 (G := GB) hlt
        have g2 := dl_get2 (G := GB) hlt
        refine AW.skip ?_
        refine Thn_n ?_
        refine hK _ _ ?_
        clear hK K
        refine AW.seq_k fun K hK => ?_
        refine AW.block ?_
        refine AW.seq_k fun K hK => ?_
        refine AW.draw [.val, .rd 0, .val, .val, .rd 0, .val, .rd 0, .val, .val, .rd 0, .val] fol (by decide) (by kernel_rfl) ?_
        simp only [push_cast, simprocAttr, bL1, lk_old bL1, bD1, lk_old bD1, bN1, lk_old bN1, bB1, lk_old bB1, bS1, lk_old bS1, bF1, lk_old bF1, bL2, lk_old bL2, bD2, lk_old bD2, bN2, lk_old bN2, bB2, lk_old bB2, bS2, lk_old bS2, bF2, lk_old bF2, dl_len, il_len, bne_self_eq_false, c1, c2, c3, g0, g1, g2]
        refine Thn_n ?_
        refine hK _ _ ?_
        clear hK K
        refine AW.cond_f rfl ?_
        refine AW.skip ?_
        refine InB_n ?_
        refine Thn_n ?_
        refine hK _ _ ?_
        clear hK K
        refine AW.region (by decide) ?_
        simp only [push_cast, simprocAttr, bL1, lk_old bL1, bD1, lk_old bD1, bN1, lk_old bN1, bB1, lk_old bB1, bS1, lk_old bS1, bF1, lk_old bF1, bL2, lk_old bL2, bD2, lk_old bD2, bN2, lk_old bN2, bB2, lk_old bB2, bS2, lk_old bS2, bF2, lk_old bF2, dl_len, il_len, bne_self_eq_false, c1, c2, c3, g0, g1, g2]
        refine Thn_n ?_
        have hwi : IntKind.i64.wrap ((i:Int)+1) = (i:Int)+1 := wi (by omega)
        refine ⟨i + 1, by omega, by omega, ?_⟩
        try simp only [keepL, setAll, push_cast, simprocAttr, bL1, lk_old bL1, bD1, lk_old bD1, bN1, lk_old bN1, bB1, lk_old bB1, bS1, lk_old bS1, bF1, lk_old bF1, bL2, lk_old bL2, bD2, lk_old bD2, bN2, lk_old bN2, bB2, lk_old bB2, bS2, lk_old bS2, bF2, lk_old bF2, dl_len, il_len, bne_self_eq_false, c1, c2, c3, g0, g1, g2, hwi]
        exact Weak.same (by simp only [Keeps, Tm.get_cons, Nat.reduceEqDiff, ↓reduceIte, if_true, if_false, ite_true, ite_false, true_and, and_true, and_self, reduceCtorEq, hwi]) (by first | rfl | simp only [Keeps, Tm.get_cons, Nat.reduceEqDiff, ↓reduceIte, if_true, if_false, ite_true, ite_false, true_and, and_true, and_self, reduceCtorEq, hwi])
      · have hin : n = i := by have := of_decide_eq_false h101; omega
        subst hin
        refine AW.exit ?_
        refine Thn_e ?_
        clear hK K
        refine Thn_e ?_
        refine InB_here ?_
        refine Thn_n ?_
        refine hK _ _ ?_
        clear hK K
        refine AW.seq_k fun K hK => ?_
        refine AW.seq_k fun K hK => ?_
        refine AW.region (by decide) ?_
        simp only [push_cast, simprocAttr, bL1, lk_old bL1, bD1, lk_old bD1, bN1, lk_old bN1, bB1, lk_old bB1, bS1, lk_old bS1, bF1, lk_old bF1, bL2, lk_old bL2, bD2, lk_old bD2, bN2, lk_old bN2, bB2, lk_old bB2, bS2, lk_old bS2, bF2, lk_old bF2, dl_len, il_len, bne_self_eq_false]
        refine Thn_n ?_
        refine hK _ _ ?_
        clear hK K
        refine AW.block ?_
        refine AW.loopK [2, 3] (fun i => i ≤ n) (fun i => [(8, .one (.int .i64 (i : Int)))]) (fun i => []) (fun i => n - i) 0 (by omega) ?_ ?_ fun i hi27 => ?_
        · first | rfl | (simp only [Keeps, Tm.get_cons, Nat.reduceEqDiff, ↓reduceIte, if_true, if_false, ite_true, ite_false, true_and, and_true, and_self, reduceCtorEq] <;> rfl)
        · first | rfl | (simp only [setAll, push_cast, simprocAttr, bL1, lk_old bL1, bD1, lk_old bD1, bN1, lk_old bN1, bB1, lk_old bB1, bS1, lk_old bS1, bF1, lk_old bF1, bL2, lk_old bL2, bD2, lk_old bD2, bN2, lk_old bN2, bB2, lk_old bB2, bS2, lk_old bS2, bF2, lk_old bF2, dl_len, il_len, bne_self_eq_false] <;> rfl)
        try simp only [keepL, setAll, push_cast, simprocAttr, bL1, lk_old bL1, bD1, lk_old bD1, bN1, lk_old bN1, bB1, lk_old bB1, bS1, lk_old bS1, bF1, lk_old bF1, bL2, lk_old bL2, bD2, lk_old bD2, bN2, lk_old bN2, bB2, lk_old bB2, bS2, lk_old bS2, bF2, lk_old bF2, dl_len, il_len, bne_self_eq_false]
        refine AW.seq_k fun K hK => ?_
        refine AW.seq_k fun K hK => ?_
        refine AW.region (by decide) ?_
        simp only [push_cast, simprocAttr, bL1, lk_old bL1, bD1, lk_old bD1, bN1, lk_old bN1, bB1, lk_old bB1, bS1, lk_old bS1, bF1, lk_old bF1, bL2, lk_old bL2, bD2, lk_old bD2, bN2, lk_old bN2, bB2, lk_old bB2, bS2, lk_old bS2, bF2, lk_old bF2, dl_len, il_len, bne_self_eq_false]
        refine Thn_n ?_
        refine hK _ _ ?_
        clear hK K
        refine AW.cond rfl (fun h119 => ?_) (fun h119 => ?_)
        · have hlt : i < n := by have := of_decide_eq_true h119; omega
          have c1 : (0 : Int) ≤ (i : Int) := by omega
          have c2 : (i : Int) < (n : Int) := by omega
          have g := il_get (f := fS) hlt
          refine AW.skip ?_
          refine Thn_n ?_
          refine hK _ _ ?_
          clear hK K
          refine AW.seq_k fun K hK => ?_
          refine AW.block ?_
          refine AW.seq_k fun K hK => ?_
          refine AW.draw [.val, .rd 0, .val, .val, .rd 0, .val, .rd 0, .val, .val, .rd 0, .val] fol (by decide) (by kernel_rfl) ?_
          simp only [push_cast, simprocAttr, bL1, lk_old bL1, bD1, lk_old bD1, bN1, lk_old bN1, bB1, lk_old bB1, bS1, lk_old bS1, bF1, lk_old bF1, bL2, lk_old bL2, bD2, lk_old bD2, bN2, lk_old bN2, bB2, lk_old bB2, bS2, lk_old bS2, bF2, lk_old bF2, dl_len, il_len, bne_self_eq_false, c1, c2, g]
          refine Thn_n ?_
          refine hK _ _ ?_
          clear hK K
          refine AW.cond_f rfl ?_
          refine AW.skip ?_
          refine InB_n ?_
          refine Thn_n ?_
          refine hK _ _ ?_
          clear hK K
          refine AW.region (by decide) ?_
          simp only [push_cast, simprocAttr, bL1, lk_old bL1, bD1, lk_old bD1, bN1, lk_old bN1, bB1, lk_old bB1, bS1, lk_old bS1, bF1, lk_old bF1, bL2, lk_old bL2, bD2, lk_old bD2, bN2, lk_old bN2, bB2, lk_old bB2, bS2, lk_old bS2, bF2, lk_old bF2, dl_len, il_len, bne_self_eq_false, c1, c2, g]
          refine Thn_n ?_
          have hwi : IntKind.i64.wrap ((i:Int)+1) = (i:Int)+1 := wi (by omega)
          refine ⟨i + 1, by omega, by omega, ?_⟩
          try simp only [keepL, setAll, push_cast, simprocAttr, bL1, lk_old bL1, bD1, lk_old bD1, bN1, lk_old bN1, bB1, lk_old bB1, bS1, lk_old bS1, bF1, lk_old bF1, bL2, lk_old bL2, bD2, lk_old bD2, bN2, lk_old bN2, bB2, lk_old bB2, bS2, lk_old bS2, bF2, lk_old bF2, dl_len, il_len, bne_self_eq_false, c1, c2, g, hwi]
          exact Weak.same (by simp only [Keeps, Tm.get_cons, Nat.reduceEqDiff, ↓reduceIte, if_true, if_false, ite_true, ite_false, true_and, and_true, and_self, reduceCtorEq, hwi]) (by first | rfl | simp only [Keeps, Tm.get_cons, Nat.reduceEqDiff, ↓reduceIte, if_true, if_false, ite_true, ite_false, true_and, and_true, and_self, reduceCtorEq, hwi])
        · have hin : n = i := by have := of_decide_eq_false h119; omega
          subst hin
          refine AW.exit ?_
          refine Thn_e ?_
          clear hK K
          refine Thn_e ?_
          refine InB_here ?_
          refine Thn_n ?_
          refine hK _ _ ?_
          clear hK K
          refine AW.seq_k fun K hK => ?_
          refine AW.seq_k fun K hK => ?_
          refine AW.region (by decide) ?_
          simp only [push_cast, simprocAttr, bL1, lk_old bL1, bD1, lk_old bD1, bN1, lk_old bN1, bB1, lk_old bB1, bS1, lk_old bS1, bF1, lk_old bF1, bL2, lk_old bL2, bD2, lk_old bD2, bN2, lk_old bN2, bB2, lk_old bB2, bS2, lk_old bS2, bF2, lk_old bF2, dl_len, il_len, bne_self_eq_false]
          refine Thn_n ?_
          refine hK _ _ ?_
          clear hK K
          refine AW.block ?_
          refine AW.loopK [2, 3] (fun i => i ≤ n) (fun i => [(9, .one (.int .i64 (i : Int)))]) (fun i => []) (fun i => n - i) 0 (by omega) ?_ ?_ fun i hi34 => ?_
          · first | rfl | (simp only [Keeps, Tm.get_cons, Nat.reduceEqDiff, ↓reduceIte, if_true, if_false, ite_true, ite_false, true_and, and_true, and_self, reduceCtorEq] <;> rfl)
          · first | rfl | (simp only [setAll, push_cast, simprocAttr, bL1, lk_old bL1, bD1, lk_old bD1, bN1, lk_old bN1, bB1, lk_old bB1, bS1, lk_old bS1, bF1, lk_old bF1, bL2, lk_old bL2, bD2, lk_old bD2, bN2, lk_old bN2, bB2, lk_old bB2, bS2, lk_old bS2, bF2, lk_old bF2, dl_len, il_len, bne_self_eq_false] <;> rfl)
          try simp only [keepL, setAll, push_cast, simprocAttr, bL1, lk_old bL1, bD1, lk_old bD1, bN1, lk_old bN1, bB1, lk_old bB1, bS1, lk_old bS1, bF1, lk_old bF1, bL2, lk_old bL2, bD2, lk_old bD2, bN2, lk_old bN2, bB2, lk_old bB2, bS2, lk_old bS2, bF2, lk_old bF2, dl_len, il_len, bne_self_eq_false]
          refine AW.seq_k fun K hK => ?_
          refine AW.seq_k fun K hK => ?_
          refine AW.region (by decide) ?_
          simp only [push_cast, simprocAttr, bL1, lk_old bL1, bD1, lk_old bD1, bN1, lk_old bN1, bB1, lk_old bB1, bS1, lk_old bS1, bF1, lk_old bF1, bL2, lk_old bL2, bD2, lk_old bD2, bN2, lk_old bN2, bB2, lk_old bB2, bS2, lk_old bS2, bF2, lk_old bF2, dl_len, il_len, bne_self_eq_false]
          refine Thn_n ?_
          refine hK _ _ ?_
          clear hK K
          refine AW.cond rfl (fun h137 => ?_) (fun h137 => ?_)
          · have hlt : i < n := by have := of_decide_eq_true h137; omega
            have c1 : (0 : Int) ≤ (i : Int) := by omega
            have c2 : (i : Int) < (n : Int) := by omega
            have g := il_get (f := fF) hlt
            refine AW.skip ?_
            refine Thn_n ?_
            refine hK _ _ ?_
            clear hK K
            refine AW.seq_k fun K hK => ?_
            refine AW.block ?_
            refine AW.seq_k fun K hK => ?_
            refine AW.draw [.val, .rd 0, .val, .val, .rd 0, .val, .rd 0, .val, .val, .rd 0, .val] fol (by decide) (by kernel_rfl) ?_
            simp only [push_cast, simprocAttr, bL1, lk_old bL1, bD1, lk_old bD1, bN1, lk_old bN1, bB1, lk_old bB1, bS1, lk_old bS1, bF1, lk_old bF1, bL2, lk_old bL2, bD2, lk_old bD2, bN2, lk_old bN2, bB2, lk_old bB2, bS2, lk_old bS2, bF2, lk_old bF2, dl_len, il_len, bne_self_eq_false, c1, c2, g]
            refine Thn_n ?_
            refine hK _ _ ?_
            clear hK K
            refine AW.cond_f rfl ?_
            refine AW.skip ?_
            refine InB_n ?_
            refine Thn_n ?_
            refine hK _ _ ?_
            clear hK K
            refine AW.region (by decide) ?_
            simp only [push_cast, simprocAttr, bL1, lk_old bL1, bD1, lk_old bD1, bN1, lk_old bN1, bB1, lk_old bB1, bS1, lk_old bS1, bF1, lk_old bF1, bL2, lk_old bL2, bD2, lk_old bD2, bN2, lk_old bN2, bB2, lk_old bB2, bS2, lk_old bS2, bF2, lk_old bF2, dl_len, il_len, bne_self_eq_false, c1, c2, g]
            refine Thn_n ?_
            have hwi : IntKind.i64.wrap ((i:Int)+1) = (i:Int)+1 := wi (by omega)
            refine ⟨i + 1, by omega, by omega, ?_⟩
            try simp only [keepL, setAll, push_cast, simprocAttr, bL1, lk_old bL1, bD1, lk_old bD1, bN1, lk_old bN1, bB1, lk_old bB1, bS1, lk_old bS1, bF1, lk_old bF1, bL2, lk_old bL2, bD2, lk_old bD2, bN2, lk_old bN2, bB2, lk_old bB2, bS2, lk_old bS2, bF2, lk_old bF2, dl_len, il_len, bne_self_eq_false, c1, c2, g, hwi]
            exact Weak.same (by simp only [Keeps, Tm.get_cons, Nat.reduceEqDiff, ↓reduceIte, if_true, if_false, ite_true, ite_false, true_and, and_true, and_self, reduceCtorEq, hwi]) (by first | rfl | simp only [Keeps, Tm.get_cons, Nat.reduceEqDiff, ↓reduceIte, if_true, if_false, ite_true, ite_false, true_and, and_true, and_self, reduceCtorEq, hwi])
          · have hin : n = i := by have := of_decide_eq_false h137; omega
            subst hin
            refine AW.exit ?_
            refine Thn_e ?_
            clear hK K
            refine Thn_e ?_
            refine InB_here ?_
            refine Thn_n ?_
            refine hK _ _ ?_
            clear hK K
            refine AW.seq_k fun K hK => ?_
            refine AW.region (by decide) ?_
            simp only [push_cast, simprocAttr, bL1, lk_old bL1, bD1, lk_old bD1, bN1, lk_old bN1, bB1, lk_old bB1, bS1, lk_old bS1, bF1, lk_old bF1, bL2, lk_old bL2, bD2, lk_old bD2, bN2, lk_old bN2, bB2, lk_old bB2, bS2, lk_old bS2, bF2, lk_old bF2, dl_len, il_len, bne_self_eq_false]
            refine Thn_n ?_
            refine hK _ _ ?_
            clear hK K
            refine AW.ret ?_
            refine hQ _ _ _ ?_
            first | refine RetP.drop0 (Or.inr rfl) ?_ ?_ hwf | refine RetP.drop (Or.inr rfl) ?_ ?_ hwf
            · simp only [resA, resOne, resTv, AV.tv, push_cast, simprocAttr, bL1, lk_old bL1, bD1, lk_old bD1, bN1, lk_old bN1, bB1, lk_old bB1, bS1, lk_old bS1, bF1, lk_old bF1, bL2, lk_old bL2, bD2, lk_old bD2, bN2, lk_old bN2, bB2, lk_old bB2, bS2, lk_old bS2, bF2, lk_old bF2, dl_len, il_len, bne_self_eq_false]
            · rfl
theorem same_n (m : AMem) : Ctr Try.prog 26 [.agg [.int .i64 0, .int .i64 0, .nils, .nils, .nils, .nils, .nils, .nils], .agg [.int .i64 0, .int .i64 0, .nils, .nils, .nils, .nils, .nils, .nils]] m (.one (.bool true)) m := by
  refine Ctr.enter Try.func26 rfl (by decide) (rs := [.tmp 4]) (nt := 151) rfl rfl fun hwf Q hQ => ?_
  refine AW.seq_k fun K hK => ?_
  refine AW.region (by decide) ?_
  simp only [push_cast, simprocAttr, bne_self_eq_false]
  refine Thn_n ?_
  refine hK _ _ ?_
  clear hK K
  refine AW.seq_k fun K hK => ?_
  refine AW.seq_k fun K hK => ?_
  refine AW.region (by decide) ?_
  simp only [push_cast, simprocAttr, bne_self_eq_false]
  refine CThen.by (sameSheet_n 0 0 _) ?_
  simp only [push_cast, simprocAttr, bne_self_eq_false]
  refine Thn_n ?_
  refine hK _ _ ?_
  clear hK K
  refine AW.cond_f rfl ?_
  refine AW.skip ?_
  iterate 5
    refine Thn_n ?_
    refine hK _ _ ?_
    clear hK K
    refine AW.seq_k fun K hK => ?_
    refine AW.seq_k fun K hK => ?_
    refine AW.region (by decide) ?_
    simp only [push_cast, simprocAttr, bne_self_eq_false]
    refine Thn_n ?_
    refine hK _ _ ?_
    clear hK K
    refine AW.block ?_
    refine AW.rounds 1 ?_
    refine ARounds.succ fun K hK => ?_
    refine AW.seq_k fun K hK => ?_
    refine AW.seq_k fun K hK => ?_
    refine AW.region (by decide) ?_
    simp only [push_cast, simprocAttr, bne_self_eq_false]
    refine Thn_n ?_
    refine hK _ _ ?_
    clear hK K
    refine AW.cond_f rfl ?_
    refine AW.exit ?_
    refine Thn_e ?_
    clear hK K
    refine Thn_e ?_
    clear hK K
    refine InB_here ?_
  refine Thn_n ?_
  refine hK _ _ ?_
  clear hK K
  refine AW.seq_k fun K hK => ?_
  refine AW.region (by decide) ?_
  simp only [push_cast, simprocAttr, bne_self_eq_false]
  refine Thn_n ?_
  refine hK _ _ ?_
  clear hK K
  refine AW.ret ?_
  refine hQ _ _ _ ?_
  first | refine RetP.drop0 (Or.inr rfl) ?_ ?_ hwf | refine RetP.drop (Or.inr rfl) ?_ ?_ hwf
  · simp only [resA, resOne, resTv, AV.tv, push_cast, simprocAttr, bne_self_eq_false]
  · rfl
theorem all_or {bs : List Int} : (∀ k, k < npS bs (0, 0) → (hsS bs (0, 0) k).2 = 0) ∨ ∃ i0, i0 < npS bs (0, 0) ∧ (∀ k, k < i0 → (hsS bs (0, 0) k).2 = 0) ∧ ¬ (hsS bs (0, 0) i0).2 = 0 := by
  rcases Classical.em (∀ k, k < npS bs (0, 0) → (hsS bs (0, 0) k).2 = 0) with h | h
  · exact .inl h
  · simp only [Classical.not_forall] at h
    obtain ⟨k, hk, he⟩ := h
    obtain ⟨i0, h1, h2⟩ := least (p := fun i => i < npS bs (0, 0) ∧ ¬ (hsS bs (0, 0) i).2 = 0) k ⟨hk, he⟩
    exact .inr ⟨i0, h1.1, fun k hk => Classical.not_not.1 fun hc => h2 k hk ⟨by omega, hc⟩, h1.2⟩
theorem np20 {bs : List Int} (hall : ∀ k, k < npS bs (0, 0) → (hsS bs (0, 0) k).2 = 0) : npS bs (0, 0) ≤ 1048576 := by
  rcases Nat.eq_zero_or_pos (npS bs (0, 0)) with h | h
  · omega
  · have h0 := hall 0 h
    have hz : szS bs (0, 0) = true := by
      cases hc : szS bs (0, 0)
      · exfalso
        unfold hsS shS at h0
        split at h0
        · rename_i hq
          unfold flS at h0
          rw [if_pos hq.1] at h0; simp at h0
        · rename_i hq; exact hq ⟨h0, hc⟩
      · rfl
    obtain ⟨a, b, c, d⟩ := szR_iff.1 hz
    have : npS bs (0, 0) ≤ 64 * 64 := Nat.mul_le_mul (by omega) (by omega)
    omega
theorem hs_all {bs : List Int} (h : (hsS bs (0, 0) (npS bs (0, 0))).2 = 0) : ∀ k, k < npS bs (0, 0) → (hsS bs (0, 0) k).2 = 0 := fun k hk => Classical.not_not.1 fun hc => by
  have := hs_err hc (npS bs (0, 0) - k)
  rw [show k + (npS bs (0, 0) - k) = npS bs (0, 0) by omega] at this
  rw [this] at h; exact hc h
theorem okB_5 {bs : List Int} (h : okB bs = true) : (D5 bs).2 = 0 := by
  unfold okB at h; simp only [Bool.and_eq_true, decide_eq_true_eq] at h; exact h.1
theorem dec_T (r0 : Nat) (bs : List Int) (m : AMem) (hp : ∃ k ez, m[r0]? = some ⟨k, 5, 0, ez, u8l bs⟩) (hn : bs.length ≤ 1073741824) (hu : ∀ i, 0 ≤ byB bs i ∧ byB bs i ≤ 255) (hok : okB bs = true) : Ctr Try.prog 22 [.one (.sl r0 0 0 bs.length)] m (.tup [(true, [.int .i64 (rdV bs 2 (0, 0)), .int .i64 (rdV bs 2 (rdS bs.length 2 (0, 0))), .sl m.length 0 0 (npS bs (0, 0)), .sl (m.length + 1) 0 0 (npS bs (0, 0)), .sl (m.length + 2) 0 0 (npS bs (0, 0)), .sl (m.length + 3) 0 0 (npS bs (0, 0)), .sl (m.length + 4) 0 0 (npS bs (0, 0)), .sl (m.length + 5) 0 0 (npS bs (0, 0))]), (false, [.int .i64 0])]) (m ++ [⟨.grow, 68, 0, 3, dl (npS bs (0, 0)) (GH bs (0, 0))⟩, ⟨.grow, 66, 0, 1, il (npS bs (0, 0)) (xD bs)⟩, ⟨.grow, 73, 0, 3, dl (npS bs (0, 0)) (xN bs)⟩, ⟨.grow, 68, 0, 3, dl (npS bs (0, 0)) (xB bs)⟩, ⟨.grow, 3, 0, 1, il (npS bs (0, 0)) (xS bs)⟩, ⟨.grow, 3, 0, 1, il (npS bs (0, 0)) (xF bs)⟩]) := by
  have hall := hs_all (Dok (okB_5 hok)).2.2.2.2
  have h := dec_B r0 bs m hp hn hu hall (np20 hall)
  rwa [if_pos hok, if_pos hok] at h
theorem dec_N (r0 : Nat) (bs : List Int) (m : AMem) (hp : ∃ k ez, m[r0]? = some ⟨k, 5, 0, ez, u8l bs⟩) (hn : bs.length ≤ 1073741824) (hu : ∀ i, 0 ≤ byB bs i ∧ byB bs i ≤ 255) (hok : okB bs = false) : Ctr Try.prog 22 [.one (.sl r0 0 0 bs.length)] m (.tup [(true, [.int .i64 0, .int .i64 0, .nils, .nils, .nils, .nils, .nils, .nils]), (false, [.int .i64 (erV bs)])]) m := by
  have hnk : ¬ okB bs = true := by rw [hok]; exact Bool.false_ne_true
  rcases @all_or bs with hall | ⟨i0, h1, h2, h3⟩
  · have h := dec_B r0 bs m hp hn hu hall (np20 hall)
    rwa [if_neg hnk, if_neg hnk] at h
  · exact dec_A r0 bs m hp hn hu i0 h1 h2 h3
theorem rdec_T (r0 : Nat) (bs : List Int) (m : AMem) (hp : ∃ k ez, m[r0]? = some ⟨k, 5, 0, ez, u8l bs⟩) (hn : bs.length ≤ 1073741824) (hu : ∀ i, 0 ≤ byB bs i ∧ byB bs i ≤ 255) (hok : okB bs = true) : Ctr Try.prog 23 [.one (.sl r0 0 0 bs.length)] m (.tup [(true, [.int .i64 (rdV bs 2 (0, 0)), .int .i64 (rdV bs 2 (rdS bs.length 2 (0, 0))), .sl m.length 0 0 (npS bs (0, 0)), .sl (m.length + 1) 0 0 (npS bs (0, 0)), .sl (m.length + 2) 0 0 (npS bs (0, 0)), .sl (m.length + 3) 0 0 (npS bs (0, 0)), .sl (m.length + 4) 0 0 (npS bs (0, 0)), .sl (m.length + 5) 0 0 (npS bs (0, 0))]), (false, [.int .i64 0])]) (m ++ [⟨.grow, 75, 0, 3, dl (npS bs (0, 0)) (GH bs (0, 0))⟩, ⟨.grow, 2, 0, 1, il (npS bs (0, 0)) (xD bs)⟩, ⟨.grow, 71, 0, 3, dl (npS bs (0, 0)) (xN bs)⟩, ⟨.grow, 75, 0, 3, dl (npS bs (0, 0)) (xB bs)⟩, ⟨.grow, 3, 0, 1, il (npS bs (0, 0)) (xS bs)⟩, ⟨.grow, 3, 0, 1, il (npS bs (0, 0)) (xF bs)⟩]) := by
  have hall := hs_all (Dok (okB_5 hok)).2.2.2.2
  have h := rdec_c r0 bs m hp hn hu (npS bs (0, 0)) (Nat.le_refl _) (.inl rfl) hall (fun _ => np20 hall)
  rwa [if_pos hok, if_pos hok] at h
theorem rdec_N (r0 : Nat) (bs : List Int) (m : AMem) (hp : ∃ k ez, m[r0]? = some ⟨k, 5, 0, ez, u8l bs⟩) (hn : bs.length ≤ 1073741824) (hu : ∀ i, 0 ≤ byB bs i ∧ byB bs i ≤ 255) (hok : okB bs = false) : Ctr Try.prog 23 [.one (.sl r0 0 0 bs.length)] m (.tup [(true, [.int .i64 0, .int .i64 0, .nils, .nils, .nils, .nils, .nils, .nils]), (false, [.int .i64 (erV bs)])]) m := by
  have hnk : ¬ okB bs = true := by rw [hok]; exact Bool.false_ne_true
  rcases @all_or bs with hall | ⟨i0, h1, h2, h3⟩
  · have h := rdec_c r0 bs m hp hn hu (npS bs (0, 0)) (Nat.le_refl _) (.inl rfl) hall (fun _ => np20 hall)
    rwa [if_neg hnk, if_neg hnk] at h
  · have h := rdec_c r0 bs m hp hn hu i0 (Nat.le_of_lt h1) (.inr h3) h2 (fun e => by omega)
    rwa [if_neg hnk, if_neg hnk] at h
theorem decS_T (r0 : Nat) (bs : List Int) (m : AMem) (hp : ∃ k ez, m[r0]? = some ⟨k, 5, 0, ez, u8l bs⟩) (hn : bs.length ≤ 1073741824) (hu : ∀ i, 0 ≤ byB bs i ∧ byB bs i ≤ 255) (hne : (endS bs.length (hsS bs (0, 0) (npS bs (0, 0)))).2 = 0) : Ctr Try.prog 20 [.one (.sl r0 0 0 bs.length)] m (.tup [(true, [.int .i64 (rdV bs 2 (0, 0)), .int .i64 (rdV bs 2 (rdS bs.length 2 (0, 0))), .sl m.length 0 0 (npS bs (0, 0))]), (false, [.int .i64 0])]) (m ++ [⟨.grow, 68, 0, 3, dl (npS bs (0, 0)) (GH bs (0, 0))⟩]) := by
  have h0 : (hsS bs (0, 0) (npS bs (0, 0))).2 = 0 := by
    rcases Classical.em ((hsS bs (0, 0) (npS bs (0, 0))).2 = 0) with h | h
    · exact h
    · unfold endS at hne; rw [if_neg (fun hc => h hc.1)] at hne; exact hne
  exact decS_B1 r0 bs m hp hn hu (hs_all h0) hne
theorem decS_N (r0 : Nat) (bs : List Int) (m : AMem) (hp : ∃ k ez, m[r0]? = some ⟨k, 5, 0, ez, u8l bs⟩) (hn : bs.length ≤ 1073741824) (hu : ∀ i, 0 ≤ byB bs i ∧ byB bs i ≤ 255) (hne : ((endS bs.length (hsS bs (0, 0) (npS bs (0, 0)))).2 != 0) = true) : Ctr Try.prog 20 [.one (.sl r0 0 0 bs.length)] m (.tup [(true, [.int .i64 0, .int .i64 0, .nils]), (false, [.int .i64 (endS bs.length (hsS bs (0, 0) (npS bs (0, 0)))).2])]) m := by
  rcases @all_or bs with hall | ⟨i0, h1, h2, h3⟩
  · exact decS_B0 r0 bs m hp hn hu hall hne
  · exact decS_A r0 bs m hp hn hu i0 h1 h2 h3 hne
theorem rdecS_T (r0 : Nat) (bs : List Int) (m : AMem) (hp : ∃ k ez, m[r0]? = some ⟨k, 5, 0, ez, u8l bs⟩) (hn : bs.length ≤ 1073741824) (hu : ∀ i, 0 ≤ byB bs i ∧ byB bs i ≤ 255) (hne : (endS bs.length (hsS bs (0, 0) (npS bs (0, 0)))).2 = 0) : Ctr Try.prog 21 [.one (.sl r0 0 0 bs.length)] m (.tup [(true, [.int .i64 (rdV bs 2 (0, 0)), .int .i64 (rdV bs 2 (rdS bs.length 2 (0, 0))), .sl m.length 0 0 (npS bs (0, 0))]), (false, [.int .i64 0])]) (m ++ [⟨.grow, 75, 0, 3, dl (npS bs (0, 0)) (GH bs (0, 0))⟩]) := by
  have h0 : (hsS bs (0, 0) (npS bs (0, 0))).2 = 0 := by
    rcases Classical.em ((hsS bs (0, 0) (npS bs (0, 0))).2 = 0) with h | h
    · exact h
    · unfold endS at hne; rw [if_neg (fun hc => h hc.1)] at hne; exact hne
  exact rdecS_B1 r0 bs m hp hn hu (hs_all h0) hne
theorem rdecS_N (r0 : Nat) (bs : List Int) (m : AMem) (hp : ∃ k ez, m[r0]? = some ⟨k, 5, 0, ez, u8l bs⟩) (hn : bs.length ≤ 1073741824) (hu : ∀ i, 0 ≤ byB bs i ∧ byB bs i ≤ 255) (hne : ((endS bs.length (hsS bs (0, 0) (npS bs (0, 0)))).2 != 0) = true) : Ctr Try.prog 21 [.one (.sl r0 0 0 bs.length)] m (.tup [(true, [.int .i64 0, .int .i64 0, .nils]), (false, [.int .i64 (endS bs.length (hsS bs (0, 0) (npS bs (0, 0)))).2])]) m := by
  rcases @all_or bs with hall | ⟨i0, h1, h2, h3⟩
  · exact rdecS_B0 r0 bs m hp hn hu hall hne
  · exact rdecS_A r0 bs m hp hn hu i0 h1 h2 h3 hne
end Go.Proofs.Ytgbehbaecdepjaa
