/- Walks and facts of this seat's program over abstract states, printed by programs of mine; no conditions but those that each theorem names. -/
import Derived.Test.YtlhppfdokgeijaaDoorM5
set_option linter.unusedSimpArgs false
set_option linter.unusedVariables false
set_option maxRecDepth 100000
set_option maxHeartbeats 4000000
namespace Go.Proofs.YtlhppfdokgeijaaDoor
open Go Go.Eng

theorem rparse_bz (t : ByteArray) (N : Nat) (m : AMem) (hN : t.size = N) (hN1 : N ≤ 1000) (hTx : ∀ A : Int, -2147483648 ≤ A → A ≤ 2147483648 → ∃ s : ByteArray, (s.toList == t.toList) = false ∧ Ctr Tryd.prog 38 [.one (.int .i64 A)] m (.one (.str s)) m) (h0 : N = 0) : Ctr Tryd.prog 36 [.one (.str t)] m (.tup [(false, [.int .i64 (0)]), (false, [.int .i64 (10)])]) m := by
  refine Ctr.enter Tryd.func36 rfl (by decide) (rs := [.tmp 2, .tmp 3]) (nt := 128) rfl rfl fun hwf Q hQ => ?_
  have zN : (t.size : Int) = (N : Int) := by rw [hN]
  have z0 : decide ((0 : Int) < (N : Int)) = false := decide_eq_false (by omega)
  have z2 : IntKind.i64.wrap ((N : Int) - 1) = (N : Int) - 1 := wi (by omega)
  have z9 : ∀ l : List UInt8, (l == l) = true := fun l => beq_self_eq_true l
  iterate 2
    refine AW.seq_k fun K hK => ?_
    refine AW.region (by decide) ?_
    simp only [push_cast, Nat.reduceAdd, Nat.reduceMul, Nat.reduceSub, Nat.reduceLeDiff, Nat.reduceLT, Nat.reduceEqDiff, Nat.reduceBEq, Nat.reduceBNe, Nat.reduceMod, Nat.reduceDiv, Int.reduceLE, Int.reduceLT, Int.reduceToNat, Int.reduceAdd, Int.reduceSub, Int.reduceMul, Int.reduceNeg, Int.reduceEq, Int.reduceBEq, Int.reduceBNe, ↓reduceIte, reduceCtorEq, String.reduceBNe, String.reduceEq, reduceDIte, Nat.reducePow, zN, z0, z2, z9]
    refine Thn_n ?_
    refine hK _ _ ?_
    clear hK K
  refine AW.seq_k fun K hK => ?_
  refine AW.seq_k fun K hK => ?_
  refine AW.region (by decide) ?_
  simp only [push_cast, Nat.reduceAdd, Nat.reduceMul, Nat.reduceSub, Nat.reduceLeDiff, Nat.reduceLT, Nat.reduceEqDiff, Nat.reduceBEq, Nat.reduceBNe, Nat.reduceMod, Nat.reduceDiv, Int.reduceLE, Int.reduceLT, Int.reduceToNat, Int.reduceAdd, Int.reduceSub, Int.reduceMul, Int.reduceNeg, Int.reduceEq, Int.reduceBEq, Int.reduceBNe, ↓reduceIte, reduceCtorEq, String.reduceBNe, String.reduceEq, reduceDIte, Nat.reducePow, zN, z0, z2, z9]
  refine Thn_n ?_
  refine hK _ _ ?_
  clear hK K
  refine AW.cond_f rfl ?_
  refine AW.skip ?_
  refine Thn_n ?_
  refine hK _ _ ?_
  clear hK K
  refine AW.seq_k fun K hK => ?_
  refine AW.region (by decide) ?_
  simp only [push_cast, Nat.reduceAdd, Nat.reduceMul, Nat.reduceSub, Nat.reduceLeDiff, Nat.reduceLT, Nat.reduceEqDiff, Nat.reduceBEq, Nat.reduceBNe, Nat.reduceMod, Nat.reduceDiv, Int.reduceLE, Int.reduceLT, Int.reduceToNat, Int.reduceAdd, Int.reduceSub, Int.reduceMul, Int.reduceNeg, Int.reduceEq, Int.reduceBEq, Int.reduceBNe, ↓reduceIte, reduceCtorEq, String.reduceBNe, String.reduceEq, reduceDIte, Nat.reducePow, zN, z0, z2, z9]
  refine Thn_n ?_
  refine hK _ _ ?_
  clear hK K
  refine AW.seq_k fun K hK => ?_
  refine AW.seq_k fun K hK => ?_
  refine AW.region (by decide) ?_
  simp only [push_cast, Nat.reduceAdd, Nat.reduceMul, Nat.reduceSub, Nat.reduceLeDiff, Nat.reduceLT, Nat.reduceEqDiff, Nat.reduceBEq, Nat.reduceBNe, Nat.reduceMod, Nat.reduceDiv, Int.reduceLE, Int.reduceLT, Int.reduceToNat, Int.reduceAdd, Int.reduceSub, Int.reduceMul, Int.reduceNeg, Int.reduceEq, Int.reduceBEq, Int.reduceBNe, ↓reduceIte, reduceCtorEq, String.reduceBNe, String.reduceEq, reduceDIte, Nat.reducePow, zN, z0, z2, z9]
  refine Thn_n ?_
  refine hK _ _ ?_
  clear hK K
  refine AW.block ?_
  refine AW.loopK [0, 4] (fun z => 0 ≤ z.1 ∧ z.1 ≤ N ∧ 0 ≤ z.2 ∧ z.2 ≤ N) (fun z => [(5, .one (.int .i64 (z.2 : Int))), (6, .one (.int .i64 (z.1 : Int)))]) (fun z => []) (fun z => N - z.1) (0, N) (by show 0 ≤ 0 ∧ 0 ≤ N ∧ 0 ≤ N ∧ N ≤ N; omega) ?_ ?_ fun z hi8 => ?_
  · first | rfl | (simp only [Keeps, Tm.get_cons, Nat.reduceEqDiff, ↓reduceIte, if_true, if_false, ite_true, ite_false, true_and, and_true, and_self, reduceCtorEq] <;> rfl)
  · first | rfl | (simp only [setAll, push_cast, Nat.reduceAdd, Nat.reduceMul, Nat.reduceSub, Nat.reduceLeDiff, Nat.reduceLT, Nat.reduceEqDiff, Nat.reduceBEq, Nat.reduceBNe, Nat.reduceMod, Nat.reduceDiv, Int.reduceLE, Int.reduceLT, Int.reduceToNat, Int.reduceAdd, Int.reduceSub, Int.reduceMul, Int.reduceNeg, Int.reduceEq, Int.reduceBEq, Int.reduceBNe, ↓reduceIte, reduceCtorEq, String.reduceBNe, String.reduceEq, reduceDIte, Nat.reducePow, zN, z0, z2, z9] <;> rfl)
  obtain ⟨i, d⟩ := z
  have hI : 0 ≤ i ∧ i ≤ N ∧ 0 ≤ d ∧ d ≤ N := hi8
  try simp only [keepL, setAll, push_cast, Nat.reduceAdd, Nat.reduceMul, Nat.reduceSub, Nat.reduceLeDiff, Nat.reduceLT, Nat.reduceEqDiff, Nat.reduceBEq, Nat.reduceBNe, Nat.reduceMod, Nat.reduceDiv, Int.reduceLE, Int.reduceLT, Int.reduceToNat, Int.reduceAdd, Int.reduceSub, Int.reduceMul, Int.reduceNeg, Int.reduceEq, Int.reduceBEq, Int.reduceBNe, ↓reduceIte, reduceCtorEq, String.reduceBNe, String.reduceEq, reduceDIte, Nat.reducePow, zN, z0, z2, z9]
  refine AW.seq_k fun K hK => ?_
  refine AW.seq_k fun K hK => ?_
  refine AW.region (by decide) ?_
  simp only [push_cast, Nat.reduceAdd, Nat.reduceMul, Nat.reduceSub, Nat.reduceLeDiff, Nat.reduceLT, Nat.reduceEqDiff, Nat.reduceBEq, Nat.reduceBNe, Nat.reduceMod, Nat.reduceDiv, Int.reduceLE, Int.reduceLT, Int.reduceToNat, Int.reduceAdd, Int.reduceSub, Int.reduceMul, Int.reduceNeg, Int.reduceEq, Int.reduceBEq, Int.reduceBNe, ↓reduceIte, reduceCtorEq, String.reduceBNe, String.reduceEq, reduceDIte, Nat.reducePow, zN, z0, z2, z9]
  refine Thn_n ?_
  refine hK _ _ ?_
  clear hK K
  refine AW.cond rfl (fun h26 => ?_) (fun h26 => ?_)
  · have hlt : i < N := by have := of_decide_eq_true h26; omega
    obtain ⟨e, he⟩ : ∃ e, e = (atB t i).toNat := ⟨_, rfl⟩
    have y1 : (0 : Int) ≤ (i : Int) := by omega
    have y2 : ((i : Int)).toNat = i := Int.toNat_natCast _
    have y3 : t[i]? = some (atB t i) := atB_get (by omega)
    have y4 : (atB t i).toNat = e := he.symm
    have y5 : IntKind.i64.wrap ((i : Int) + 1) = (i : Int) + 1 := wi (by omega)
    have hcs : e ≠ 46 ∨ (e = 46 ∧ d = N) ∨ (e = 46 ∧ d ≠ N) := by omega
    rcases hcs with hc | hc | hc
    · have y6 : (((e : Int) : Int) == 46) = false := by exact beq_false_of_ne (by omega)
      refine AW.skip ?_
      refine Thn_n ?_
      refine hK _ _ ?_
      clear hK K
      refine AW.seq_k fun K hK => ?_
      refine AW.block ?_
      refine AW.seq_k fun K hK => ?_
      refine AW.region (by decide) ?_
      simp only [push_cast, Nat.reduceAdd, Nat.reduceMul, Nat.reduceSub, Nat.reduceLeDiff, Nat.reduceLT, Nat.reduceEqDiff, Nat.reduceBEq, Nat.reduceBNe, Nat.reduceMod, Nat.reduceDiv, Int.reduceLE, Int.reduceLT, Int.reduceToNat, Int.reduceAdd, Int.reduceSub, Int.reduceMul, Int.reduceNeg, Int.reduceEq, Int.reduceBEq, Int.reduceBNe, ↓reduceIte, reduceCtorEq, String.reduceBNe, String.reduceEq, reduceDIte, Nat.reducePow, zN, z0, z2, z9, y1, y2, y3, y4, y5, y6]
      refine Thn_n ?_
      refine hK _ _ ?_
      clear hK K
      refine AW.cond_f rfl ?_
      refine AW.skip ?_
      refine InB_n ?_
      refine Thn_n ?_
      refine hK _ _ ?_
      clear hK K
      refine AW.region (by decide) ?_
      simp only [push_cast, Nat.reduceAdd, Nat.reduceMul, Nat.reduceSub, Nat.reduceLeDiff, Nat.reduceLT, Nat.reduceEqDiff, Nat.reduceBEq, Nat.reduceBNe, Nat.reduceMod, Nat.reduceDiv, Int.reduceLE, Int.reduceLT, Int.reduceToNat, Int.reduceAdd, Int.reduceSub, Int.reduceMul, Int.reduceNeg, Int.reduceEq, Int.reduceBEq, Int.reduceBNe, ↓reduceIte, reduceCtorEq, String.reduceBNe, String.reduceEq, reduceDIte, Nat.reducePow, zN, z0, z2, z9, y1, y2, y3, y4, y5, y6]
      refine Thn_n ?_
      refine ⟨(i + 1, d), (by show 0 ≤ i + 1 ∧ i + 1 ≤ N ∧ 0 ≤ _ ∧ _ ≤ N; omega), (by show N - (i + 1) < N - i; omega), ?_⟩
      try simp only [keepL, setAll, push_cast, Nat.reduceAdd, Nat.reduceMul, Nat.reduceSub, Nat.reduceLeDiff, Nat.reduceLT, Nat.reduceEqDiff, Nat.reduceBEq, Nat.reduceBNe, Nat.reduceMod, Nat.reduceDiv, Int.reduceLE, Int.reduceLT, Int.reduceToNat, Int.reduceAdd, Int.reduceSub, Int.reduceMul, Int.reduceNeg, Int.reduceEq, Int.reduceBEq, Int.reduceBNe, ↓reduceIte, reduceCtorEq, String.reduceBNe, String.reduceEq, reduceDIte, Nat.reducePow, zN, z0, z2, z9, y1, y2, y3, y4, y5, y6]
      exact Weak.same (by simp only [Keeps, Tm.get_cons, Nat.reduceEqDiff, ↓reduceIte, if_true, if_false, ite_true, ite_false, true_and, and_true, and_self, reduceCtorEq]) (by first | rfl | simp only [Keeps, Tm.get_cons, Nat.reduceEqDiff, ↓reduceIte, if_true, if_false, ite_true, ite_false, true_and, and_true, and_self, reduceCtorEq])
    · have y6 : (((e : Int) : Int) == 46) = true := by (rw [show ((e : Int) : Int) = 46 by omega]; exact beq_self_eq_true _)
      have y7 : (((d : Int) : Int) == (N : Int)) = true := by (rw [show ((d : Int) : Int) = (N : Int) by omega]; exact beq_self_eq_true _)
      refine AW.skip ?_
      refine Thn_n ?_
      refine hK _ _ ?_
      clear hK K
      refine AW.seq_k fun K hK => ?_
      refine AW.block ?_
      refine AW.seq_k fun K hK => ?_
      refine AW.region (by decide) ?_
      simp only [push_cast, Nat.reduceAdd, Nat.reduceMul, Nat.reduceSub, Nat.reduceLeDiff, Nat.reduceLT, Nat.reduceEqDiff, Nat.reduceBEq, Nat.reduceBNe, Nat.reduceMod, Nat.reduceDiv, Int.reduceLE, Int.reduceLT, Int.reduceToNat, Int.reduceAdd, Int.reduceSub, Int.reduceMul, Int.reduceNeg, Int.reduceEq, Int.reduceBEq, Int.reduceBNe, ↓reduceIte, reduceCtorEq, String.reduceBNe, String.reduceEq, reduceDIte, Nat.reducePow, zN, z0, z2, z9, y1, y2, y3, y4, y5, y6, y7]
      refine Thn_n ?_
      refine hK _ _ ?_
      clear hK K
      refine AW.cond_t rfl ?_
      refine AW.region (by decide) ?_
      simp only [push_cast, Nat.reduceAdd, Nat.reduceMul, Nat.reduceSub, Nat.reduceLeDiff, Nat.reduceLT, Nat.reduceEqDiff, Nat.reduceBEq, Nat.reduceBNe, Nat.reduceMod, Nat.reduceDiv, Int.reduceLE, Int.reduceLT, Int.reduceToNat, Int.reduceAdd, Int.reduceSub, Int.reduceMul, Int.reduceNeg, Int.reduceEq, Int.reduceBEq, Int.reduceBNe, ↓reduceIte, reduceCtorEq, String.reduceBNe, String.reduceEq, reduceDIte, Nat.reducePow, zN, z0, z2, z9, y1, y2, y3, y4, y5, y6, y7]
      refine InB_n ?_
      refine Thn_n ?_
      refine hK _ _ ?_
      clear hK K
      refine AW.region (by decide) ?_
      simp only [push_cast, Nat.reduceAdd, Nat.reduceMul, Nat.reduceSub, Nat.reduceLeDiff, Nat.reduceLT, Nat.reduceEqDiff, Nat.reduceBEq, Nat.reduceBNe, Nat.reduceMod, Nat.reduceDiv, Int.reduceLE, Int.reduceLT, Int.reduceToNat, Int.reduceAdd, Int.reduceSub, Int.reduceMul, Int.reduceNeg, Int.reduceEq, Int.reduceBEq, Int.reduceBNe, ↓reduceIte, reduceCtorEq, String.reduceBNe, String.reduceEq, reduceDIte, Nat.reducePow, zN, z0, z2, z9, y1, y2, y3, y4, y5, y6, y7]
      refine Thn_n ?_
      refine ⟨(i + 1, i), (by show 0 ≤ i + 1 ∧ i + 1 ≤ N ∧ 0 ≤ _ ∧ _ ≤ N; omega), (by show N - (i + 1) < N - i; omega), ?_⟩
      try simp only [keepL, setAll, push_cast, Nat.reduceAdd, Nat.reduceMul, Nat.reduceSub, Nat.reduceLeDiff, Nat.reduceLT, Nat.reduceEqDiff, Nat.reduceBEq, Nat.reduceBNe, Nat.reduceMod, Nat.reduceDiv, Int.reduceLE, Int.reduceLT, Int.reduceToNat, Int.reduceAdd, Int.reduceSub, Int.reduceMul, Int.reduceNeg, Int.reduceEq, Int.reduceBEq, Int.reduceBNe, ↓reduceIte, reduceCtorEq, String.reduceBNe, String.reduceEq, reduceDIte, Nat.reducePow, zN, z0, z2, z9, y1, y2, y3, y4, y5, y6, y7]
      exact Weak.same (by simp only [Keeps, Tm.get_cons, Nat.reduceEqDiff, ↓reduceIte, if_true, if_false, ite_true, ite_false, true_and, and_true, and_self, reduceCtorEq]) (by first | rfl | simp only [Keeps, Tm.get_cons, Nat.reduceEqDiff, ↓reduceIte, if_true, if_false, ite_true, ite_false, true_and, and_true, and_self, reduceCtorEq])
    · have y6 : (((e : Int) : Int) == 46) = true := by (rw [show ((e : Int) : Int) = 46 by omega]; exact beq_self_eq_true _)
      have y7 : (((d : Int) : Int) == (N : Int)) = false := by exact beq_false_of_ne (by omega)
      refine AW.skip ?_
      refine Thn_n ?_
      refine hK _ _ ?_
      clear hK K
      refine AW.seq_k fun K hK => ?_
      refine AW.block ?_
      refine AW.seq_k fun K hK => ?_
      refine AW.region (by decide) ?_
      simp only [push_cast, Nat.reduceAdd, Nat.reduceMul, Nat.reduceSub, Nat.reduceLeDiff, Nat.reduceLT, Nat.reduceEqDiff, Nat.reduceBEq, Nat.reduceBNe, Nat.reduceMod, Nat.reduceDiv, Int.reduceLE, Int.reduceLT, Int.reduceToNat, Int.reduceAdd, Int.reduceSub, Int.reduceMul, Int.reduceNeg, Int.reduceEq, Int.reduceBEq, Int.reduceBNe, ↓reduceIte, reduceCtorEq, String.reduceBNe, String.reduceEq, reduceDIte, Nat.reducePow, zN, z0, z2, z9, y1, y2, y3, y4, y5, y6, y7]
      refine Thn_n ?_
      refine hK _ _ ?_
      clear hK K
      refine AW.cond_f rfl ?_
      refine AW.skip ?_
      refine InB_n ?_
      refine Thn_n ?_
      refine hK _ _ ?_
      clear hK K
      refine AW.region (by decide) ?_
      simp only [push_cast, Nat.reduceAdd, Nat.reduceMul, Nat.reduceSub, Nat.reduceLeDiff, Nat.reduceLT, Nat.reduceEqDiff, Nat.reduceBEq, Nat.reduceBNe, Nat.reduceMod, Nat.reduceDiv, Int.reduceLE, Int.reduceLT, Int.reduceToNat, Int.reduceAdd, Int.reduceSub, Int.reduceMul, Int.reduceNeg, Int.reduceEq, Int.reduceBEq, Int.reduceBNe, ↓reduceIte, reduceCtorEq, String.reduceBNe, String.reduceEq, reduceDIte, Nat.reducePow, zN, z0, z2, z9, y1, y2, y3, y4, y5, y6, y7]
      refine Thn_n ?_
      refine ⟨(i + 1, d), (by show 0 ≤ i + 1 ∧ i + 1 ≤ N ∧ 0 ≤ _ ∧ _ ≤ N; omega), (by show N - (i + 1) < N - i; omega), ?_⟩
      try simp only [keepL, setAll, push_cast, Nat.reduceAdd, Nat.reduceMul, Nat.reduceSub, Nat.reduceLeDiff, Nat.reduceLT, Nat.reduceEqDiff, Nat.reduceBEq, Nat.reduceBNe, Nat.reduceMod, Nat.reduceDiv, Int.reduceLE, Int.reduceLT, Int.reduceToNat, Int.reduceAdd, Int.reduceSub, Int.reduceMul, Int.reduceNeg, Int.reduceEq, Int.reduceBEq, Int.reduceBNe, ↓reduceIte, reduceCtorEq, String.reduceBNe, String.reduceEq, reduceDIte, Nat.reducePow, zN, z0, z2, z9, y1, y2, y3, y4, y5, y6, y7]
      exact Weak.same (by simp only [Keeps, Tm.get_cons, Nat.reduceEqDiff, ↓reduceIte, if_true, if_false, ite_true, ite_false, true_and, and_true, and_self, reduceCtorEq]) (by first | rfl | simp only [Keeps, Tm.get_cons, Nat.reduceEqDiff, ↓reduceIte, if_true, if_false, ite_true, ite_false, true_and, and_true, and_self, reduceCtorEq])
  · have x1 : IntKind.i64.wrap ((d : Int) - 0) = (d : Int) := wi (by omega)
    have x2 : IntKind.i64.wrap ((N : Int) - (d : Int)) = (N : Int) - (d : Int) := wi (by omega)
    have hcs : d = 0 ∨ (d ≠ 0 ∧ 5 < (d : Int)) ∨ (d ≠ 0 ∧ ¬ 5 < (d : Int) ∧ 17 < (N : Int) - (d : Int)) ∨ (d ≠ 0 ∧ ¬ 5 < (d : Int) ∧ ¬ 17 < (N : Int) - (d : Int)) := by omega
    rcases hcs with hc | hc | hc | hc
    · have x3 : (((d : Int) : Int) == 0) = true := by (rw [show ((d : Int) : Int) = 0 by omega]; exact beq_self_eq_true _)
      refine AW.exit ?_
      refine Thn_e ?_
      clear hK K
      refine Thn_e ?_
      refine InB_here ?_
      refine Thn_n ?_
      refine hK _ _ ?_
      clear hK K
      refine AW.seq_k fun K hK => ?_
      refine AW.seq_k fun K hK => ?_
      refine AW.region (by decide) ?_
      simp only [push_cast, Nat.reduceAdd, Nat.reduceMul, Nat.reduceSub, Nat.reduceLeDiff, Nat.reduceLT, Nat.reduceEqDiff, Nat.reduceBEq, Nat.reduceBNe, Nat.reduceMod, Nat.reduceDiv, Int.reduceLE, Int.reduceLT, Int.reduceToNat, Int.reduceAdd, Int.reduceSub, Int.reduceMul, Int.reduceNeg, Int.reduceEq, Int.reduceBEq, Int.reduceBNe, ↓reduceIte, reduceCtorEq, String.reduceBNe, String.reduceEq, reduceDIte, Nat.reducePow, zN, z0, z2, z9, x1, x2, x3]
      refine Thn_n ?_
      refine hK _ _ ?_
      clear hK K
      refine AW.cond_t rfl ?_
      refine AW.seq_k fun K hK => ?_
      refine AW.region (by decide) ?_
      simp only [push_cast, Nat.reduceAdd, Nat.reduceMul, Nat.reduceSub, Nat.reduceLeDiff, Nat.reduceLT, Nat.reduceEqDiff, Nat.reduceBEq, Nat.reduceBNe, Nat.reduceMod, Nat.reduceDiv, Int.reduceLE, Int.reduceLT, Int.reduceToNat, Int.reduceAdd, Int.reduceSub, Int.reduceMul, Int.reduceNeg, Int.reduceEq, Int.reduceBEq, Int.reduceBNe, ↓reduceIte, reduceCtorEq, String.reduceBNe, String.reduceEq, reduceDIte, Nat.reducePow, zN, z0, z2, z9, x1, x2, x3]
      refine Thn_n ?_
      refine hK _ _ ?_
      clear hK K
      refine AW.ret ?_
      refine Thn_r ?_
      refine hQ _ _ _ ?_
      first | refine RetP.drop0 (Or.inr rfl) ?_ ?_ hwf | refine RetP.drop (Or.inr rfl) ?_ ?_ hwf
      · simp only [resA, resOne, resTv, AV.tv, push_cast, Nat.reduceAdd, Nat.reduceMul, Nat.reduceSub, Nat.reduceLeDiff, Nat.reduceLT, Nat.reduceEqDiff, Nat.reduceBEq, Nat.reduceBNe, Nat.reduceMod, Nat.reduceDiv, Int.reduceLE, Int.reduceLT, Int.reduceToNat, Int.reduceAdd, Int.reduceSub, Int.reduceMul, Int.reduceNeg, Int.reduceEq, Int.reduceBEq, Int.reduceBNe, ↓reduceIte, reduceCtorEq, String.reduceBNe, String.reduceEq, reduceDIte, Nat.reducePow, zN, z0, z2, z9, x1, x2, x3]
      · rfl
    · have x3 : (((d : Int) : Int) == 0) = false := by exact beq_false_of_ne (by omega)
      have x4 : decide ((5 : Int) < (d : Int)) = true := decide_eq_true hc.2
      refine AW.exit ?_
      refine Thn_e ?_
      clear hK K
      refine Thn_e ?_
      refine InB_here ?_
      refine Thn_n ?_
      refine hK _ _ ?_
      clear hK K
      refine AW.seq_k fun K hK => ?_
      refine AW.seq_k fun K hK => ?_
      refine AW.region (by decide) ?_
      simp only [push_cast, Nat.reduceAdd, Nat.reduceMul, Nat.reduceSub, Nat.reduceLeDiff, Nat.reduceLT, Nat.reduceEqDiff, Nat.reduceBEq, Nat.reduceBNe, Nat.reduceMod, Nat.reduceDiv, Int.reduceLE, Int.reduceLT, Int.reduceToNat, Int.reduceAdd, Int.reduceSub, Int.reduceMul, Int.reduceNeg, Int.reduceEq, Int.reduceBEq, Int.reduceBNe, ↓reduceIte, reduceCtorEq, String.reduceBNe, String.reduceEq, reduceDIte, Nat.reducePow, zN, z0, z2, z9, x1, x2, x3, x4]
      refine Thn_n ?_
      refine hK _ _ ?_
      clear hK K
      refine AW.cond_t rfl ?_
      refine AW.seq_k fun K hK => ?_
      refine AW.region (by decide) ?_
      simp only [push_cast, Nat.reduceAdd, Nat.reduceMul, Nat.reduceSub, Nat.reduceLeDiff, Nat.reduceLT, Nat.reduceEqDiff, Nat.reduceBEq, Nat.reduceBNe, Nat.reduceMod, Nat.reduceDiv, Int.reduceLE, Int.reduceLT, Int.reduceToNat, Int.reduceAdd, Int.reduceSub, Int.reduceMul, Int.reduceNeg, Int.reduceEq, Int.reduceBEq, Int.reduceBNe, ↓reduceIte, reduceCtorEq, String.reduceBNe, String.reduceEq, reduceDIte, Nat.reducePow, zN, z0, z2, z9, x1, x2, x3, x4]
      refine Thn_n ?_
      refine hK _ _ ?_
      clear hK K
      refine AW.ret ?_
      refine Thn_r ?_
      refine hQ _ _ _ ?_
      first | refine RetP.drop0 (Or.inr rfl) ?_ ?_ hwf | refine RetP.drop (Or.inr rfl) ?_ ?_ hwf
      · simp only [resA, resOne, resTv, AV.tv, push_cast, Nat.reduceAdd, Nat.reduceMul, Nat.reduceSub, Nat.reduceLeDiff, Nat.reduceLT, Nat.reduceEqDiff, Nat.reduceBEq, Nat.reduceBNe, Nat.reduceMod, Nat.reduceDiv, Int.reduceLE, Int.reduceLT, Int.reduceToNat, Int.reduceAdd, Int.reduceSub, Int.reduceMul, Int.reduceNeg, Int.reduceEq, Int.reduceBEq, Int.reduceBNe, ↓reduceIte, reduceCtorEq, String.reduceBNe, String.reduceEq, reduceDIte, Nat.reducePow, zN, z0, z2, z9, x1, x2, x3, x4]
      · rfl
    · have x3 : (((d : Int) : Int) == 0) = false := by exact beq_false_of_ne (by omega)
      have x4 : decide ((5 : Int) < (d : Int)) = false := decide_eq_false hc.2.1
      have x5 : decide ((17 : Int) < (N : Int) - (d : Int)) = true := decide_eq_true hc.2.2
      refine AW.exit ?_
      refine Thn_e ?_
      clear hK K
      refine Thn_e ?_
      refine InB_here ?_
      refine Thn_n ?_
      refine hK _ _ ?_
      clear hK K
      refine AW.seq_k fun K hK => ?_
      refine AW.seq_k fun K hK => ?_
      refine AW.region (by decide) ?_
      simp only [push_cast, Nat.reduceAdd, Nat.reduceMul, Nat.reduceSub, Nat.reduceLeDiff, Nat.reduceLT, Nat.reduceEqDiff, Nat.reduceBEq, Nat.reduceBNe, Nat.reduceMod, Nat.reduceDiv, Int.reduceLE, Int.reduceLT, Int.reduceToNat, Int.reduceAdd, Int.reduceSub, Int.reduceMul, Int.reduceNeg, Int.reduceEq, Int.reduceBEq, Int.reduceBNe, ↓reduceIte, reduceCtorEq, String.reduceBNe, String.reduceEq, reduceDIte, Nat.reducePow, zN, z0, z2, z9, x1, x2, x3, x4, x5]
      refine Thn_n ?_
      refine hK _ _ ?_
      clear hK K
      refine AW.cond_t rfl ?_
      refine AW.seq_k fun K hK => ?_
      refine AW.region (by decide) ?_
      simp only [push_cast, Nat.reduceAdd, Nat.reduceMul, Nat.reduceSub, Nat.reduceLeDiff, Nat.reduceLT, Nat.reduceEqDiff, Nat.reduceBEq, Nat.reduceBNe, Nat.reduceMod, Nat.reduceDiv, Int.reduceLE, Int.reduceLT, Int.reduceToNat, Int.reduceAdd, Int.reduceSub, Int.reduceMul, Int.reduceNeg, Int.reduceEq, Int.reduceBEq, Int.reduceBNe, ↓reduceIte, reduceCtorEq, String.reduceBNe, String.reduceEq, reduceDIte, Nat.reducePow, zN, z0, z2, z9, x1, x2, x3, x4, x5]
      refine Thn_n ?_
      refine hK _ _ ?_
      clear hK K
      refine AW.ret ?_
      refine Thn_r ?_
      refine hQ _ _ _ ?_
      first | refine RetP.drop0 (Or.inr rfl) ?_ ?_ hwf | refine RetP.drop (Or.inr rfl) ?_ ?_ hwf
      · simp only [resA, resOne, resTv, AV.tv, push_cast, Nat.reduceAdd, Nat.reduceMul, Nat.reduceSub, Nat.reduceLeDiff, Nat.reduceLT, Nat.reduceEqDiff, Nat.reduceBEq, Nat.reduceBNe, Nat.reduceMod, Nat.reduceDiv, Int.reduceLE, Int.reduceLT, Int.reduceToNat, Int.reduceAdd, Int.reduceSub, Int.reduceMul, Int.reduceNeg, Int.reduceEq, Int.reduceBEq, Int.reduceBNe, ↓reduceIte, reduceCtorEq, String.reduceBNe, String.reduceEq, reduceDIte, Nat.reducePow, zN, z0, z2, z9, x1, x2, x3, x4, x5]
      · rfl
    · have x3 : (((d : Int) : Int) == 0) = false := by exact beq_false_of_ne (by omega)
      have x4 : decide ((5 : Int) < (d : Int)) = false := decide_eq_false hc.2.1
      have x5 : decide ((17 : Int) < (N : Int) - (d : Int)) = false := decide_eq_false hc.2.2
      refine AW.exit ?_
      refine Thn_e ?_
      clear hK K
      refine Thn_e ?_
      refine InB_here ?_
      refine Thn_n ?_
      refine hK _ _ ?_
      clear hK K
      refine AW.seq_k fun K hK => ?_
      refine AW.seq_k fun K hK => ?_
      refine AW.region (by decide) ?_
      simp only [push_cast, Nat.reduceAdd, Nat.reduceMul, Nat.reduceSub, Nat.reduceLeDiff, Nat.reduceLT, Nat.reduceEqDiff, Nat.reduceBEq, Nat.reduceBNe, Nat.reduceMod, Nat.reduceDiv, Int.reduceLE, Int.reduceLT, Int.reduceToNat, Int.reduceAdd, Int.reduceSub, Int.reduceMul, Int.reduceNeg, Int.reduceEq, Int.reduceBEq, Int.reduceBNe, ↓reduceIte, reduceCtorEq, String.reduceBNe, String.reduceEq, reduceDIte, Nat.reducePow, zN, z0, z2, z9, x1, x2, x3, x4, x5]
      refine Thn_n ?_
      refine hK _ _ ?_
      clear hK K
      refine AW.cond_f rfl ?_
      refine AW.skip ?_
      refine Thn_n ?_
      refine hK _ _ ?_
      clear hK K
      refine AW.seq_k fun K hK => ?_
      refine AW.region (by decide) ?_
      simp only [push_cast, Nat.reduceAdd, Nat.reduceMul, Nat.reduceSub, Nat.reduceLeDiff, Nat.reduceLT, Nat.reduceEqDiff, Nat.reduceBEq, Nat.reduceBNe, Nat.reduceMod, Nat.reduceDiv, Int.reduceLE, Int.reduceLT, Int.reduceToNat, Int.reduceAdd, Int.reduceSub, Int.reduceMul, Int.reduceNeg, Int.reduceEq, Int.reduceBEq, Int.reduceBNe, ↓reduceIte, reduceCtorEq, String.reduceBNe, String.reduceEq, reduceDIte, Nat.reducePow, zN, z0, z2, z9, x1, x2, x3, x4, x5]
      refine Thn_n ?_
      refine hK _ _ ?_
      clear hK K
      refine AW.seq_k fun K hK => ?_
      refine AW.seq_k fun K hK => ?_
      refine AW.region (by decide) ?_
      simp only [push_cast, Nat.reduceAdd, Nat.reduceMul, Nat.reduceSub, Nat.reduceLeDiff, Nat.reduceLT, Nat.reduceEqDiff, Nat.reduceBEq, Nat.reduceBNe, Nat.reduceMod, Nat.reduceDiv, Int.reduceLE, Int.reduceLT, Int.reduceToNat, Int.reduceAdd, Int.reduceSub, Int.reduceMul, Int.reduceNeg, Int.reduceEq, Int.reduceBEq, Int.reduceBNe, ↓reduceIte, reduceCtorEq, String.reduceBNe, String.reduceEq, reduceDIte, Nat.reducePow, zN, z0, z2, z9, x1, x2, x3, x4, x5]
      refine Thn_n ?_
      refine hK _ _ ?_
      clear hK K
      refine AW.block ?_
      refine AW.loopK [0, 4, 5] (fun z => 0 ≤ z.1 ∧ z.1 ≤ d) (fun z => [(7, .one (.int .i64 z.2)), (8, .one (.int .i64 (z.1 : Int)))]) (fun z => []) (fun z => d - z.1) (0, 0) (by show 0 ≤ 0 ∧ 0 ≤ d; omega) ?_ ?_ fun z hi31 => ?_
      · first | rfl | (simp only [Keeps, Tm.get_cons, Nat.reduceEqDiff, ↓reduceIte, if_true, if_false, ite_true, ite_false, true_and, and_true, and_self, reduceCtorEq] <;> rfl)
      · first | rfl | (simp only [setAll, push_cast, Nat.reduceAdd, Nat.reduceMul, Nat.reduceSub, Nat.reduceLeDiff, Nat.reduceLT, Nat.reduceEqDiff, Nat.reduceBEq, Nat.reduceBNe, Nat.reduceMod, Nat.reduceDiv, Int.reduceLE, Int.reduceLT, Int.reduceToNat, Int.reduceAdd, Int.reduceSub, Int.reduceMul, Int.reduceNeg, Int.reduceEq, Int.reduceBEq, Int.reduceBNe, ↓reduceIte, reduceCtorEq, String.reduceBNe, String.reduceEq, reduceDIte, Nat.reducePow, zN, z0, z2, z9, x1, x2, x3, x4, x5] <;> rfl)
      obtain ⟨i2, n2⟩ := z
      have hI2 : 0 ≤ i2 ∧ i2 ≤ d := hi31
      try simp only [keepL, setAll, push_cast, Nat.reduceAdd, Nat.reduceMul, Nat.reduceSub, Nat.reduceLeDiff, Nat.reduceLT, Nat.reduceEqDiff, Nat.reduceBEq, Nat.reduceBNe, Nat.reduceMod, Nat.reduceDiv, Int.reduceLE, Int.reduceLT, Int.reduceToNat, Int.reduceAdd, Int.reduceSub, Int.reduceMul, Int.reduceNeg, Int.reduceEq, Int.reduceBEq, Int.reduceBNe, ↓reduceIte, reduceCtorEq, String.reduceBNe, String.reduceEq, reduceDIte, Nat.reducePow, zN, z0, z2, z9, x1, x2, x3, x4, x5]
      refine AW.seq_k fun K hK => ?_
      refine AW.seq_k fun K hK => ?_
      refine AW.region (by decide) ?_
      simp only [push_cast, Nat.reduceAdd, Nat.reduceMul, Nat.reduceSub, Nat.reduceLeDiff, Nat.reduceLT, Nat.reduceEqDiff, Nat.reduceBEq, Nat.reduceBNe, Nat.reduceMod, Nat.reduceDiv, Int.reduceLE, Int.reduceLT, Int.reduceToNat, Int.reduceAdd, Int.reduceSub, Int.reduceMul, Int.reduceNeg, Int.reduceEq, Int.reduceBEq, Int.reduceBNe, ↓reduceIte, reduceCtorEq, String.reduceBNe, String.reduceEq, reduceDIte, Nat.reducePow, zN, z0, z2, z9, x1, x2, x3, x4, x5]
      refine Thn_n ?_
      refine hK _ _ ?_
      clear hK K
      refine AW.cond rfl (fun h59 => ?_) (fun h59 => ?_)
      · have hlt : i2 < d := by have := of_decide_eq_true h59; omega
        obtain ⟨e, he⟩ : ∃ e, e = (atB t i2).toNat := ⟨_, rfl⟩
        have y1 : (0 : Int) ≤ (i2 : Int) := by omega
        have y2 : ((i2 : Int)).toNat = i2 := Int.toNat_natCast _
        have y3 : t[i2]? = some (atB t i2) := atB_get (by omega)
        have y4 : (atB t i2).toNat = e := he.symm
        have y5 : IntKind.i64.wrap ((i2 : Int) + 1) = (i2 : Int) + 1 := wi (by omega)
        have hcs : e < 48 ∨ 57 < e ∨ (48 ≤ e ∧ e ≤ 57) := by omega
        rcases hcs with hc | hc | hc
        · have y6 : decide ((e : Int) < 48) = true := decide_eq_true (by omega)
          have y7 : decide ((57 : Int) < (e : Int)) = false := decide_eq_false (by omega)
          refine AW.skip ?_
          refine Thn_n ?_
          refine hK _ _ ?_
          clear hK K
          refine AW.seq_k fun K hK => ?_
          refine AW.block ?_
          refine AW.seq_k fun K hK => ?_
          refine AW.seq_k fun K hK => ?_
          refine AW.region (by decide) ?_
          simp only [push_cast, Nat.reduceAdd, Nat.reduceMul, Nat.reduceSub, Nat.reduceLeDiff, Nat.reduceLT, Nat.reduceEqDiff, Nat.reduceBEq, Nat.reduceBNe, Nat.reduceMod, Nat.reduceDiv, Int.reduceLE, Int.reduceLT, Int.reduceToNat, Int.reduceAdd, Int.reduceSub, Int.reduceMul, Int.reduceNeg, Int.reduceEq, Int.reduceBEq, Int.reduceBNe, ↓reduceIte, reduceCtorEq, String.reduceBNe, String.reduceEq, reduceDIte, Nat.reducePow, zN, z0, z2, z9, x1, x2, x3, x4, x5, y1, y2, y3, y4, y5, y6, y7]
          refine Thn_n ?_
          refine hK _ _ ?_
          clear hK K
          refine AW.cond_t rfl ?_
          refine AW.seq_k fun K hK => ?_
          refine AW.region (by decide) ?_
          simp only [push_cast, Nat.reduceAdd, Nat.reduceMul, Nat.reduceSub, Nat.reduceLeDiff, Nat.reduceLT, Nat.reduceEqDiff, Nat.reduceBEq, Nat.reduceBNe, Nat.reduceMod, Nat.reduceDiv, Int.reduceLE, Int.reduceLT, Int.reduceToNat, Int.reduceAdd, Int.reduceSub, Int.reduceMul, Int.reduceNeg, Int.reduceEq, Int.reduceBEq, Int.reduceBNe, ↓reduceIte, reduceCtorEq, String.reduceBNe, String.reduceEq, reduceDIte, Nat.reducePow, zN, z0, z2, z9, x1, x2, x3, x4, x5, y1, y2, y3, y4, y5, y6, y7]
          refine Thn_n ?_
          refine hK _ _ ?_
          clear hK K
          refine AW.ret ?_
          refine Thn_r ?_
          refine InB_r ?_
          refine Thn_r ?_
          refine Thn_r ?_
          refine InB_r ?_
          refine Thn_r ?_
          refine hQ _ _ _ ?_
          first | refine RetP.drop0 (Or.inr rfl) ?_ ?_ hwf | refine RetP.drop (Or.inr rfl) ?_ ?_ hwf
          · simp only [resA, resOne, resTv, AV.tv, push_cast, Nat.reduceAdd, Nat.reduceMul, Nat.reduceSub, Nat.reduceLeDiff, Nat.reduceLT, Nat.reduceEqDiff, Nat.reduceBEq, Nat.reduceBNe, Nat.reduceMod, Nat.reduceDiv, Int.reduceLE, Int.reduceLT, Int.reduceToNat, Int.reduceAdd, Int.reduceSub, Int.reduceMul, Int.reduceNeg, Int.reduceEq, Int.reduceBEq, Int.reduceBNe, ↓reduceIte, reduceCtorEq, String.reduceBNe, String.reduceEq, reduceDIte, Nat.reducePow, zN, z0, z2, z9, x1, x2, x3, x4, x5, y1, y2, y3, y4, y5, y6, y7]
          · rfl
        · have y6 : decide ((e : Int) < 48) = false := decide_eq_false (by omega)
          have y7 : decide ((57 : Int) < (e : Int)) = true := decide_eq_true (by omega)
          refine AW.skip ?_
          refine Thn_n ?_
          refine hK _ _ ?_
          clear hK K
          refine AW.seq_k fun K hK => ?_
          refine AW.block ?_
          refine AW.seq_k fun K hK => ?_
          refine AW.seq_k fun K hK => ?_
          refine AW.region (by decide) ?_
          simp only [push_cast, Nat.reduceAdd, Nat.reduceMul, Nat.reduceSub, Nat.reduceLeDiff, Nat.reduceLT, Nat.reduceEqDiff, Nat.reduceBEq, Nat.reduceBNe, Nat.reduceMod, Nat.reduceDiv, Int.reduceLE, Int.reduceLT, Int.reduceToNat, Int.reduceAdd, Int.reduceSub, Int.reduceMul, Int.reduceNeg, Int.reduceEq, Int.reduceBEq, Int.reduceBNe, ↓reduceIte, reduceCtorEq, String.reduceBNe, String.reduceEq, reduceDIte, Nat.reducePow, zN, z0, z2, z9, x1, x2, x3, x4, x5, y1, y2, y3, y4, y5, y6, y7]
          refine Thn_n ?_
          refine hK _ _ ?_
          clear hK K
          refine AW.cond_t rfl ?_
          refine AW.seq_k fun K hK => ?_
          refine AW.region (by decide) ?_
          simp only [push_cast, Nat.reduceAdd, Nat.reduceMul, Nat.reduceSub, Nat.reduceLeDiff, Nat.reduceLT, Nat.reduceEqDiff, Nat.reduceBEq, Nat.reduceBNe, Nat.reduceMod, Nat.reduceDiv, Int.reduceLE, Int.reduceLT, Int.reduceToNat, Int.reduceAdd, Int.reduceSub, Int.reduceMul, Int.reduceNeg, Int.reduceEq, Int.reduceBEq, Int.reduceBNe, ↓reduceIte, reduceCtorEq, String.reduceBNe, String.reduceEq, reduceDIte, Nat.reducePow, zN, z0, z2, z9, x1, x2, x3, x4, x5, y1, y2, y3, y4, y5, y6, y7]
          refine Thn_n ?_
          refine hK _ _ ?_
          clear hK K
          refine AW.ret ?_
          refine Thn_r ?_
          refine InB_r ?_
          refine Thn_r ?_
          refine Thn_r ?_
          refine InB_r ?_
          refine Thn_r ?_
          refine hQ _ _ _ ?_
          first | refine RetP.drop0 (Or.inr rfl) ?_ ?_ hwf | refine RetP.drop (Or.inr rfl) ?_ ?_ hwf
          · simp only [resA, resOne, resTv, AV.tv, push_cast, Nat.reduceAdd, Nat.reduceMul, Nat.reduceSub, Nat.reduceLeDiff, Nat.reduceLT, Nat.reduceEqDiff, Nat.reduceBEq, Nat.reduceBNe, Nat.reduceMod, Nat.reduceDiv, Int.reduceLE, Int.reduceLT, Int.reduceToNat, Int.reduceAdd, Int.reduceSub, Int.reduceMul, Int.reduceNeg, Int.reduceEq, Int.reduceBEq, Int.reduceBNe, ↓reduceIte, reduceCtorEq, String.reduceBNe, String.reduceEq, reduceDIte, Nat.reducePow, zN, z0, z2, z9, x1, x2, x3, x4, x5, y1, y2, y3, y4, y5, y6, y7]
          · rfl
        · have y6 : decide ((e : Int) < 48) = false := decide_eq_false (by omega)
          have y7 : decide ((57 : Int) < (e : Int)) = false := decide_eq_false (by omega)
          refine AW.skip ?_
          refine Thn_n ?_
          refine hK _ _ ?_
          clear hK K
          refine AW.seq_k fun K hK => ?_
          refine AW.block ?_
          refine AW.seq_k fun K hK => ?_
          refine AW.seq_k fun K hK => ?_
          refine AW.region (by decide) ?_
          simp only [push_cast, Nat.reduceAdd, Nat.reduceMul, Nat.reduceSub, Nat.reduceLeDiff, Nat.reduceLT, Nat.reduceEqDiff, Nat.reduceBEq, Nat.reduceBNe, Nat.reduceMod, Nat.reduceDiv, Int.reduceLE, Int.reduceLT, Int.reduceToNat, Int.reduceAdd, Int.reduceSub, Int.reduceMul, Int.reduceNeg, Int.reduceEq, Int.reduceBEq, Int.reduceBNe, ↓reduceIte, reduceCtorEq, String.reduceBNe, String.reduceEq, reduceDIte, Nat.reducePow, zN, z0, z2, z9, x1, x2, x3, x4, x5, y1, y2, y3, y4, y5, y6, y7]
          refine Thn_n ?_
          refine hK _ _ ?_
          clear hK K
          refine AW.cond_f rfl ?_
          refine AW.skip ?_
          refine Thn_n ?_
          refine hK _ _ ?_
          clear hK K
          refine AW.region (by decide) ?_
          simp only [push_cast, Nat.reduceAdd, Nat.reduceMul, Nat.reduceSub, Nat.reduceLeDiff, Nat.reduceLT, Nat.reduceEqDiff, Nat.reduceBEq, Nat.reduceBNe, Nat.reduceMod, Nat.reduceDiv, Int.reduceLE, Int.reduceLT, Int.reduceToNat, Int.reduceAdd, Int.reduceSub, Int.reduceMul, Int.reduceNeg, Int.reduceEq, Int.reduceBEq, Int.reduceBNe, ↓reduceIte, reduceCtorEq, String.reduceBNe, String.reduceEq, reduceDIte, Nat.reducePow, zN, z0, z2, z9, x1, x2, x3, x4, x5, y1, y2, y3, y4, y5, y6, y7]
          refine InB_n ?_
          refine Thn_n ?_
          refine hK _ _ ?_
          clear hK K
          refine AW.region (by decide) ?_
          simp only [push_cast, Nat.reduceAdd, Nat.reduceMul, Nat.reduceSub, Nat.reduceLeDiff, Nat.reduceLT, Nat.reduceEqDiff, Nat.reduceBEq, Nat.reduceBNe, Nat.reduceMod, Nat.reduceDiv, Int.reduceLE, Int.reduceLT, Int.reduceToNat, Int.reduceAdd, Int.reduceSub, Int.reduceMul, Int.reduceNeg, Int.reduceEq, Int.reduceBEq, Int.reduceBNe, ↓reduceIte, reduceCtorEq, String.reduceBNe, String.reduceEq, reduceDIte, Nat.reducePow, zN, z0, z2, z9, x1, x2, x3, x4, x5, y1, y2, y3, y4, y5, y6, y7]
          refine Thn_n ?_
          refine ⟨(i2 + 1, IntKind.i64.wrap (IntKind.i64.wrap (n2 * 10) + IntKind.i64.wrap (IntKind.u8.wrap ((e : Int) - 48)))), (by show 0 ≤ i2 + 1 ∧ i2 + 1 ≤ d; omega), (by show d - (i2 + 1) < d - i2; omega), ?_⟩
          try simp only [keepL, setAll, push_cast, Nat.reduceAdd, Nat.reduceMul, Nat.reduceSub, Nat.reduceLeDiff, Nat.reduceLT, Nat.reduceEqDiff, Nat.reduceBEq, Nat.reduceBNe, Nat.reduceMod, Nat.reduceDiv, Int.reduceLE, Int.reduceLT, Int.reduceToNat, Int.reduceAdd, Int.reduceSub, Int.reduceMul, Int.reduceNeg, Int.reduceEq, Int.reduceBEq, Int.reduceBNe, ↓reduceIte, reduceCtorEq, String.reduceBNe, String.reduceEq, reduceDIte, Nat.reducePow, zN, z0, z2, z9, x1, x2, x3, x4, x5, y1, y2, y3, y4, y5, y6, y7]
          exact Weak.same (by simp only [Keeps, Tm.get_cons, Nat.reduceEqDiff, ↓reduceIte, if_true, if_false, ite_true, ite_false, true_and, and_true, and_self, reduceCtorEq]) (by first | rfl | simp only [Keeps, Tm.get_cons, Nat.reduceEqDiff, ↓reduceIte, if_true, if_false, ite_true, ite_false, true_and, and_true, and_self, reduceCtorEq])
      · refine AW.exit ?_
        refine Thn_e ?_
        clear hK K
        refine Thn_e ?_
        refine InB_here ?_
        refine Thn_n ?_
        refine hK _ _ ?_
        clear hK K
        refine AW.seq_k fun K hK => ?_
        refine AW.region (by decide) ?_
        simp only [push_cast, Nat.reduceAdd, Nat.reduceMul, Nat.reduceSub, Nat.reduceLeDiff, Nat.reduceLT, Nat.reduceEqDiff, Nat.reduceBEq, Nat.reduceBNe, Nat.reduceMod, Nat.reduceDiv, Int.reduceLE, Int.reduceLT, Int.reduceToNat, Int.reduceAdd, Int.reduceSub, Int.reduceMul, Int.reduceNeg, Int.reduceEq, Int.reduceBEq, Int.reduceBNe, ↓reduceIte, reduceCtorEq, String.reduceBNe, String.reduceEq, reduceDIte, Nat.reducePow, zN, z0, z2, z9, x1, x2, x3, x4, x5]
        refine Thn_n ?_
        refine hK _ _ ?_
        clear hK K
        refine AW.seq_k fun K hK => ?_
        refine AW.seq_k fun K hK => ?_
        refine AW.region (by decide) ?_
        simp only [push_cast, Nat.reduceAdd, Nat.reduceMul, Nat.reduceSub, Nat.reduceLeDiff, Nat.reduceLT, Nat.reduceEqDiff, Nat.reduceBEq, Nat.reduceBNe, Nat.reduceMod, Nat.reduceDiv, Int.reduceLE, Int.reduceLT, Int.reduceToNat, Int.reduceAdd, Int.reduceSub, Int.reduceMul, Int.reduceNeg, Int.reduceEq, Int.reduceBEq, Int.reduceBNe, ↓reduceIte, reduceCtorEq, String.reduceBNe, String.reduceEq, reduceDIte, Nat.reducePow, zN, z0, z2, z9, x1, x2, x3, x4, x5]
        refine Thn_n ?_
        refine hK _ _ ?_
        clear hK K
        refine AW.block ?_
        refine AW.loopK [0, 4, 5, 7] (fun z => z.1 ≤ N) (fun z => [(9, .one (.int .i64 z.2)), (10, .one (.int .i64 ((z.1 : Int) - 1)))]) (fun z => []) (fun z => z.1) (N, 0) (Nat.le_refl _) ?_ ?_ fun z hi48 => ?_
        · first | rfl | (simp only [Keeps, Tm.get_cons, Nat.reduceEqDiff, ↓reduceIte, if_true, if_false, ite_true, ite_false, true_and, and_true, and_self, reduceCtorEq] <;> rfl)
        · first | rfl | (simp only [setAll, push_cast, Nat.reduceAdd, Nat.reduceMul, Nat.reduceSub, Nat.reduceLeDiff, Nat.reduceLT, Nat.reduceEqDiff, Nat.reduceBEq, Nat.reduceBNe, Nat.reduceMod, Nat.reduceDiv, Int.reduceLE, Int.reduceLT, Int.reduceToNat, Int.reduceAdd, Int.reduceSub, Int.reduceMul, Int.reduceNeg, Int.reduceEq, Int.reduceBEq, Int.reduceBNe, ↓reduceIte, reduceCtorEq, String.reduceBNe, String.reduceEq, reduceDIte, Nat.reducePow, zN, z0, z2, z9, x1, x2, x3, x4, x5] <;> rfl)
        obtain ⟨k, x⟩ := z
        have hkN : k ≤ N := hi48
        try simp only [keepL, setAll, push_cast, Nat.reduceAdd, Nat.reduceMul, Nat.reduceSub, Nat.reduceLeDiff, Nat.reduceLT, Nat.reduceEqDiff, Nat.reduceBEq, Nat.reduceBNe, Nat.reduceMod, Nat.reduceDiv, Int.reduceLE, Int.reduceLT, Int.reduceToNat, Int.reduceAdd, Int.reduceSub, Int.reduceMul, Int.reduceNeg, Int.reduceEq, Int.reduceBEq, Int.reduceBNe, ↓reduceIte, reduceCtorEq, String.reduceBNe, String.reduceEq, reduceDIte, Nat.reducePow, zN, z0, z2, z9, x1, x2, x3, x4, x5]
        refine AW.seq_k fun K hK => ?_
        refine AW.seq_k fun K hK => ?_
        refine AW.region (by decide) ?_
        simp only [push_cast, Nat.reduceAdd, Nat.reduceMul, Nat.reduceSub, Nat.reduceLeDiff, Nat.reduceLT, Nat.reduceEqDiff, Nat.reduceBEq, Nat.reduceBNe, Nat.reduceMod, Nat.reduceDiv, Int.reduceLE, Int.reduceLT, Int.reduceToNat, Int.reduceAdd, Int.reduceSub, Int.reduceMul, Int.reduceNeg, Int.reduceEq, Int.reduceBEq, Int.reduceBNe, ↓reduceIte, reduceCtorEq, String.reduceBNe, String.reduceEq, reduceDIte, Nat.reducePow, zN, z0, z2, z9, x1, x2, x3, x4, x5]
        refine Thn_n ?_
        refine hK _ _ ?_
        clear hK K
        refine AW.cond rfl (fun h85 => ?_) (fun h85 => ?_)
        · obtain ⟨j, hj⟩ : ∃ j, k = j + 1 := ⟨k - 1, by have := of_decide_eq_true h85; omega⟩
          subst hj
          have y0 : (j : Int) + 1 - 1 = (j : Int) := by omega
          obtain ⟨e, he⟩ : ∃ e, e = (atB t j).toNat := ⟨_, rfl⟩
          have y1 : (0 : Int) ≤ (j : Int) := by omega
          have y2 : ((j : Int)).toNat = j := Int.toNat_natCast _
          have y3 : t[j]? = some (atB t j) := atB_get (by omega)
          have y4 : (atB t j).toNat = e := he.symm
          have ye : IntKind.i64.wrap ((j : Int) - 1) = (j : Int) - 1 := wi (by omega)
          have hcs : e < 48 ∨ 57 < e ∨ (48 ≤ e ∧ e ≤ 57) := by omega
          rcases hcs with hc | hc | hc
          · have y6 : decide ((e : Int) < 48) = true := decide_eq_true (by omega)
            have y7 : decide ((57 : Int) < (e : Int)) = false := decide_eq_false (by omega)
            refine AW.skip ?_
            refine Thn_n ?_
            refine hK _ _ ?_
            clear hK K
            refine AW.seq_k fun K hK => ?_
            refine AW.block ?_
            refine AW.seq_k fun K hK => ?_
            refine AW.seq_k fun K hK => ?_
            refine AW.region (by decide) ?_
            simp only [push_cast, Nat.reduceAdd, Nat.reduceMul, Nat.reduceSub, Nat.reduceLeDiff, Nat.reduceLT, Nat.reduceEqDiff, Nat.reduceBEq, Nat.reduceBNe, Nat.reduceMod, Nat.reduceDiv, Int.reduceLE, Int.reduceLT, Int.reduceToNat, Int.reduceAdd, Int.reduceSub, Int.reduceMul, Int.reduceNeg, Int.reduceEq, Int.reduceBEq, Int.reduceBNe, ↓reduceIte, reduceCtorEq, String.reduceBNe, String.reduceEq, reduceDIte, Nat.reducePow, zN, z0, z2, z9, x1, x2, x3, x4, x5, y0, y1, y2, y3, y4, ye, y6, y7]
            refine Thn_n ?_
            refine hK _ _ ?_
            clear hK K
            refine AW.cond_t rfl ?_
            refine AW.seq_k fun K hK => ?_
            refine AW.region (by decide) ?_
            simp only [push_cast, Nat.reduceAdd, Nat.reduceMul, Nat.reduceSub, Nat.reduceLeDiff, Nat.reduceLT, Nat.reduceEqDiff, Nat.reduceBEq, Nat.reduceBNe, Nat.reduceMod, Nat.reduceDiv, Int.reduceLE, Int.reduceLT, Int.reduceToNat, Int.reduceAdd, Int.reduceSub, Int.reduceMul, Int.reduceNeg, Int.reduceEq, Int.reduceBEq, Int.reduceBNe, ↓reduceIte, reduceCtorEq, String.reduceBNe, String.reduceEq, reduceDIte, Nat.reducePow, zN, z0, z2, z9, x1, x2, x3, x4, x5, y0, y1, y2, y3, y4, ye, y6, y7]
            refine Thn_n ?_
            refine hK _ _ ?_
            clear hK K
            refine AW.ret ?_
            refine Thn_r ?_
            refine InB_r ?_
            refine Thn_r ?_
            refine Thn_r ?_
            refine InB_r ?_
            refine Thn_r ?_
            refine hQ _ _ _ ?_
            first | refine RetP.drop0 (Or.inr rfl) ?_ ?_ hwf | refine RetP.drop (Or.inr rfl) ?_ ?_ hwf
            · simp only [resA, resOne, resTv, AV.tv, push_cast, Nat.reduceAdd, Nat.reduceMul, Nat.reduceSub, Nat.reduceLeDiff, Nat.reduceLT, Nat.reduceEqDiff, Nat.reduceBEq, Nat.reduceBNe, Nat.reduceMod, Nat.reduceDiv, Int.reduceLE, Int.reduceLT, Int.reduceToNat, Int.reduceAdd, Int.reduceSub, Int.reduceMul, Int.reduceNeg, Int.reduceEq, Int.reduceBEq, Int.reduceBNe, ↓reduceIte, reduceCtorEq, String.reduceBNe, String.reduceEq, reduceDIte, Nat.reducePow, zN, z0, z2, z9, x1, x2, x3, x4, x5, y0, y1, y2, y3, y4, ye, y6, y7]
            · rfl
          · have y6 : decide ((e : Int) < 48) = false := decide_eq_false (by omega)
            have y7 : decide ((57 : Int) < (e : Int)) = true := decide_eq_true (by omega)
            refine AW.skip ?_
            refine Thn_n ?_
            refine hK _ _ ?_
            clear hK K
            refine AW.seq_k fun K hK => ?_
            refine AW.block ?_
            refine AW.seq_k fun K hK => ?_
            refine AW.seq_k fun K hK => ?_
            refine AW.region (by decide) ?_
            simp only [push_cast, Nat.reduceAdd, Nat.reduceMul, Nat.reduceSub, Nat.reduceLeDiff, Nat.reduceLT, Nat.reduceEqDiff, Nat.reduceBEq, Nat.reduceBNe, Nat.reduceMod, Nat.reduceDiv, Int.reduceLE, Int.reduceLT, Int.reduceToNat, Int.reduceAdd, Int.reduceSub, Int.reduceMul, Int.reduceNeg, Int.reduceEq, Int.reduceBEq, Int.reduceBNe, ↓reduceIte, reduceCtorEq, String.reduceBNe, String.reduceEq, reduceDIte, Nat.reducePow, zN, z0, z2, z9, x1, x2, x3, x4, x5, y0, y1, y2, y3, y4, ye, y6, y7]
            refine Thn_n ?_
            refine hK _ _ ?_
            clear hK K
            refine AW.cond_t rfl ?_
            refine AW.seq_k fun K hK => ?_
            refine AW.region (by decide) ?_
            simp only [push_cast, Nat.reduceAdd, Nat.reduceMul, Nat.reduceSub, Nat.reduceLeDiff, Nat.reduceLT, Nat.reduceEqDiff, Nat.reduceBEq, Nat.reduceBNe, Nat.reduceMod, Nat.reduceDiv, Int.reduceLE, Int.reduceLT, Int.reduceToNat, Int.reduceAdd, Int.reduceSub, Int.reduceMul, Int.reduceNeg, Int.reduceEq, Int.reduceBEq, Int.reduceBNe, ↓reduceIte, reduceCtorEq, String.reduceBNe, String.reduceEq, reduceDIte, Nat.reducePow, zN, z0, z2, z9, x1, x2, x3, x4, x5, y0, y1, y2, y3, y4, ye, y6, y7]
            refine Thn_n ?_
            refine hK _ _ ?_
            clear hK K
            refine AW.ret ?_
            refine Thn_r ?_
            refine InB_r ?_
            refine Thn_r ?_
            refine Thn_r ?_
            refine InB_r ?_
            refine Thn_r ?_
            refine hQ _ _ _ ?_
            first | refine RetP.drop0 (Or.inr rfl) ?_ ?_ hwf | refine RetP.drop (Or.inr rfl) ?_ ?_ hwf
            · simp only [resA, resOne, resTv, AV.tv, push_cast, Nat.reduceAdd, Nat.reduceMul, Nat.reduceSub, Nat.reduceLeDiff, Nat.reduceLT, Nat.reduceEqDiff, Nat.reduceBEq, Nat.reduceBNe, Nat.reduceMod, Nat.reduceDiv, Int.reduceLE, Int.reduceLT, Int.reduceToNat, Int.reduceAdd, Int.reduceSub, Int.reduceMul, Int.reduceNeg, Int.reduceEq, Int.reduceBEq, Int.reduceBNe, ↓reduceIte, reduceCtorEq, String.reduceBNe, String.reduceEq, reduceDIte, Nat.reducePow, zN, z0, z2, z9, x1, x2, x3, x4, x5, y0, y1, y2, y3, y4, ye, y6, y7]
            · rfl
          · have y6 : decide ((e : Int) < 48) = false := decide_eq_false (by omega)
            have y7 : decide ((57 : Int) < (e : Int)) = false := decide_eq_false (by omega)
            refine AW.skip ?_
            refine Thn_n ?_
            refine hK _ _ ?_
            clear hK K
            refine AW.seq_k fun K hK => ?_
            refine AW.block ?_
            refine AW.seq_k fun K hK => ?_
            refine AW.seq_k fun K hK => ?_
            refine AW.region (by decide) ?_
            simp only [push_cast, Nat.reduceAdd, Nat.reduceMul, Nat.reduceSub, Nat.reduceLeDiff, Nat.reduceLT, Nat.reduceEqDiff, Nat.reduceBEq, Nat.reduceBNe, Nat.reduceMod, Nat.reduceDiv, Int.reduceLE, Int.reduceLT, Int.reduceToNat, Int.reduceAdd, Int.reduceSub, Int.reduceMul, Int.reduceNeg, Int.reduceEq, Int.reduceBEq, Int.reduceBNe, ↓reduceIte, reduceCtorEq, String.reduceBNe, String.reduceEq, reduceDIte, Nat.reducePow, zN, z0, z2, z9, x1, x2, x3, x4, x5, y0, y1, y2, y3, y4, ye, y6, y7]
            refine Thn_n ?_
            refine hK _ _ ?_
            clear hK K
            refine AW.cond_f rfl ?_
            refine AW.skip ?_
            refine Thn_n ?_
            refine hK _ _ ?_
            clear hK K
            refine AW.region (by decide) ?_
            simp only [push_cast, Nat.reduceAdd, Nat.reduceMul, Nat.reduceSub, Nat.reduceLeDiff, Nat.reduceLT, Nat.reduceEqDiff, Nat.reduceBEq, Nat.reduceBNe, Nat.reduceMod, Nat.reduceDiv, Int.reduceLE, Int.reduceLT, Int.reduceToNat, Int.reduceAdd, Int.reduceSub, Int.reduceMul, Int.reduceNeg, Int.reduceEq, Int.reduceBEq, Int.reduceBNe, ↓reduceIte, reduceCtorEq, String.reduceBNe, String.reduceEq, reduceDIte, Nat.reducePow, zN, z0, z2, z9, x1, x2, x3, x4, x5, y0, y1, y2, y3, y4, ye, y6, y7]
            refine InB_n ?_
            refine Thn_n ?_
            refine hK _ _ ?_
            clear hK K
            refine AW.region (by decide) ?_
            simp only [push_cast, Nat.reduceAdd, Nat.reduceMul, Nat.reduceSub, Nat.reduceLeDiff, Nat.reduceLT, Nat.reduceEqDiff, Nat.reduceBEq, Nat.reduceBNe, Nat.reduceMod, Nat.reduceDiv, Int.reduceLE, Int.reduceLT, Int.reduceToNat, Int.reduceAdd, Int.reduceSub, Int.reduceMul, Int.reduceNeg, Int.reduceEq, Int.reduceBEq, Int.reduceBNe, ↓reduceIte, reduceCtorEq, String.reduceBNe, String.reduceEq, reduceDIte, Nat.reducePow, zN, z0, z2, z9, x1, x2, x3, x4, x5, y0, y1, y2, y3, y4, ye, y6, y7]
            refine Thn_n ?_
            refine ⟨(j, IntKind.i64.wrap ((IntKind.i64.wrap (x + IntKind.i64.wrap (IntKind.i64.wrap (IntKind.u8.wrap ((e : Int) - 48)) * 65536))).tdiv 10)), (by show j ≤ N; omega), (by show j < j + 1; omega), ?_⟩
            try simp only [keepL, setAll, push_cast, Nat.reduceAdd, Nat.reduceMul, Nat.reduceSub, Nat.reduceLeDiff, Nat.reduceLT, Nat.reduceEqDiff, Nat.reduceBEq, Nat.reduceBNe, Nat.reduceMod, Nat.reduceDiv, Int.reduceLE, Int.reduceLT, Int.reduceToNat, Int.reduceAdd, Int.reduceSub, Int.reduceMul, Int.reduceNeg, Int.reduceEq, Int.reduceBEq, Int.reduceBNe, ↓reduceIte, reduceCtorEq, String.reduceBNe, String.reduceEq, reduceDIte, Nat.reducePow, zN, z0, z2, z9, x1, x2, x3, x4, x5, y0, y1, y2, y3, y4, ye, y6, y7]
            exact Weak.same (by simp only [Keeps, Tm.get_cons, Nat.reduceEqDiff, ↓reduceIte, if_true, if_false, ite_true, ite_false, true_and, and_true, and_self, reduceCtorEq]) (by first | rfl | simp only [Keeps, Tm.get_cons, Nat.reduceEqDiff, ↓reduceIte, if_true, if_false, ite_true, ite_false, true_and, and_true, and_self, reduceCtorEq])
        · obtain ⟨A1, hA1⟩ : ∃ A1, A1 = IntKind.i64.wrap (IntKind.i64.wrap (n2 * 65536) + x) := ⟨_, rfl⟩
          obtain ⟨A, hA⟩ : ∃ A, A = A1 := ⟨_, rfl⟩
          have hcs : 2147483648 < A ∨ A < -2147483648 ∨ (-2147483648 ≤ A ∧ A ≤ 2147483648) := by omega
          rcases hcs with hc | hc | hc
          · have z7 : decide ((2147483648 : Int) < A) = true := decide_eq_true (by omega)
            have z8 : decide (A < -2147483648) = false := decide_eq_false (by omega)
            refine AW.exit ?_
            refine Thn_e ?_
            clear hK K
            refine Thn_e ?_
            refine InB_here ?_
            refine Thn_n ?_
            refine hK _ _ ?_
            clear hK K
            refine AW.seq_k fun K hK => ?_
            refine AW.region (by decide) ?_
            simp only [push_cast, Nat.reduceAdd, Nat.reduceMul, Nat.reduceSub, Nat.reduceLeDiff, Nat.reduceLT, Nat.reduceEqDiff, Nat.reduceBEq, Nat.reduceBNe, Nat.reduceMod, Nat.reduceDiv, Int.reduceLE, Int.reduceLT, Int.reduceToNat, Int.reduceAdd, Int.reduceSub, Int.reduceMul, Int.reduceNeg, Int.reduceEq, Int.reduceBEq, Int.reduceBNe, ↓reduceIte, reduceCtorEq, String.reduceBNe, String.reduceEq, reduceDIte, Nat.reducePow, zN, z0, z2, z9, x1, x2, x3, x4, x5, ← hA1, ← hA, z7, z8]
            refine Thn_n ?_
            refine hK _ _ ?_
            clear hK K
            refine AW.seq_k fun K hK => ?_
            refine AW.seq_k fun K hK => ?_
            refine AW.region (by decide) ?_
            simp only [push_cast, Nat.reduceAdd, Nat.reduceMul, Nat.reduceSub, Nat.reduceLeDiff, Nat.reduceLT, Nat.reduceEqDiff, Nat.reduceBEq, Nat.reduceBNe, Nat.reduceMod, Nat.reduceDiv, Int.reduceLE, Int.reduceLT, Int.reduceToNat, Int.reduceAdd, Int.reduceSub, Int.reduceMul, Int.reduceNeg, Int.reduceEq, Int.reduceBEq, Int.reduceBNe, ↓reduceIte, reduceCtorEq, String.reduceBNe, String.reduceEq, reduceDIte, Nat.reducePow, zN, z0, z2, z9, x1, x2, x3, x4, x5, ← hA1, ← hA, z7, z8]
            refine Thn_n ?_
            refine hK _ _ ?_
            clear hK K
            refine AW.cond_f rfl ?_
            refine AW.skip ?_
            refine Thn_n ?_
            refine hK _ _ ?_
            clear hK K
            refine AW.seq_k fun K hK => ?_
            refine AW.seq_k fun K hK => ?_
            refine AW.region (by decide) ?_
            simp only [push_cast, Nat.reduceAdd, Nat.reduceMul, Nat.reduceSub, Nat.reduceLeDiff, Nat.reduceLT, Nat.reduceEqDiff, Nat.reduceBEq, Nat.reduceBNe, Nat.reduceMod, Nat.reduceDiv, Int.reduceLE, Int.reduceLT, Int.reduceToNat, Int.reduceAdd, Int.reduceSub, Int.reduceMul, Int.reduceNeg, Int.reduceEq, Int.reduceBEq, Int.reduceBNe, ↓reduceIte, reduceCtorEq, String.reduceBNe, String.reduceEq, reduceDIte, Nat.reducePow, zN, z0, z2, z9, x1, x2, x3, x4, x5, ← hA1, ← hA, z7, z8]
            refine Thn_n ?_
            refine hK _ _ ?_
            clear hK K
            refine AW.cond_t rfl ?_
            refine AW.seq_k fun K hK => ?_
            refine AW.region (by decide) ?_
            simp only [push_cast, Nat.reduceAdd, Nat.reduceMul, Nat.reduceSub, Nat.reduceLeDiff, Nat.reduceLT, Nat.reduceEqDiff, Nat.reduceBEq, Nat.reduceBNe, Nat.reduceMod, Nat.reduceDiv, Int.reduceLE, Int.reduceLT, Int.reduceToNat, Int.reduceAdd, Int.reduceSub, Int.reduceMul, Int.reduceNeg, Int.reduceEq, Int.reduceBEq, Int.reduceBNe, ↓reduceIte, reduceCtorEq, String.reduceBNe, String.reduceEq, reduceDIte, Nat.reducePow, zN, z0, z2, z9, x1, x2, x3, x4, x5, ← hA1, ← hA, z7, z8]
            refine Thn_n ?_
            refine hK _ _ ?_
            clear hK K
            refine AW.ret ?_
            refine Thn_r ?_
            refine hQ _ _ _ ?_
            first | refine RetP.drop0 (Or.inr rfl) ?_ ?_ hwf | refine RetP.drop (Or.inr rfl) ?_ ?_ hwf
            · simp only [resA, resOne, resTv, AV.tv, push_cast, Nat.reduceAdd, Nat.reduceMul, Nat.reduceSub, Nat.reduceLeDiff, Nat.reduceLT, Nat.reduceEqDiff, Nat.reduceBEq, Nat.reduceBNe, Nat.reduceMod, Nat.reduceDiv, Int.reduceLE, Int.reduceLT, Int.reduceToNat, Int.reduceAdd, Int.reduceSub, Int.reduceMul, Int.reduceNeg, Int.reduceEq, Int.reduceBEq, Int.reduceBNe, ↓reduceIte, reduceCtorEq, String.reduceBNe, String.reduceEq, reduceDIte, Nat.reducePow, zN, z0, z2, z9, x1, x2, x3, x4, x5, ← hA1, ← hA, z7, z8]
            · rfl
          · have z7 : decide ((2147483648 : Int) < A) = false := decide_eq_false (by omega)
            have z8 : decide (A < -2147483648) = true := decide_eq_true (by omega)
            refine AW.exit ?_
            refine Thn_e ?_
            clear hK K
            refine Thn_e ?_
            refine InB_here ?_
            refine Thn_n ?_
            refine hK _ _ ?_
            clear hK K
            refine AW.seq_k fun K hK => ?_
            refine AW.region (by decide) ?_
            simp only [push_cast, Nat.reduceAdd, Nat.reduceMul, Nat.reduceSub, Nat.reduceLeDiff, Nat.reduceLT, Nat.reduceEqDiff, Nat.reduceBEq, Nat.reduceBNe, Nat.reduceMod, Nat.reduceDiv, Int.reduceLE, Int.reduceLT, Int.reduceToNat, Int.reduceAdd, Int.reduceSub, Int.reduceMul, Int.reduceNeg, Int.reduceEq, Int.reduceBEq, Int.reduceBNe, ↓reduceIte, reduceCtorEq, String.reduceBNe, String.reduceEq, reduceDIte, Nat.reducePow, zN, z0, z2, z9, x1, x2, x3, x4, x5, ← hA1, ← hA, z7, z8]
            refine Thn_n ?_
            refine hK _ _ ?_
            clear hK K
            refine AW.seq_k fun K hK => ?_
            refine AW.seq_k fun K hK => ?_
            refine AW.region (by decide) ?_
            simp only [push_cast, Nat.reduceAdd, Nat.reduceMul, Nat.reduceSub, Nat.reduceLeDiff, Nat.reduceLT, Nat.reduceEqDiff, Nat.reduceBEq, Nat.reduceBNe, Nat.reduceMod, Nat.reduceDiv, Int.reduceLE, Int.reduceLT, Int.reduceToNat, Int.reduceAdd, Int.reduceSub, Int.reduceMul, Int.reduceNeg, Int.reduceEq, Int.reduceBEq, Int.reduceBNe, ↓reduceIte, reduceCtorEq, String.reduceBNe, String.reduceEq, reduceDIte, Nat.reducePow, zN, z0, z2, z9, x1, x2, x3, x4, x5, ← hA1, ← hA, z7, z8]
            refine Thn_n ?_
            refine hK _ _ ?_
            clear hK K
            refine AW.cond_f rfl ?_
            refine AW.skip ?_
            refine Thn_n ?_
            refine hK _ _ ?_
            clear hK K
            refine AW.seq_k fun K hK => ?_
            refine AW.seq_k fun K hK => ?_
            refine AW.region (by decide) ?_
            simp only [push_cast, Nat.reduceAdd, Nat.reduceMul, Nat.reduceSub, Nat.reduceLeDiff, Nat.reduceLT, Nat.reduceEqDiff, Nat.reduceBEq, Nat.reduceBNe, Nat.reduceMod, Nat.reduceDiv, Int.reduceLE, Int.reduceLT, Int.reduceToNat, Int.reduceAdd, Int.reduceSub, Int.reduceMul, Int.reduceNeg, Int.reduceEq, Int.reduceBEq, Int.reduceBNe, ↓reduceIte, reduceCtorEq, String.reduceBNe, String.reduceEq, reduceDIte, Nat.reducePow, zN, z0, z2, z9, x1, x2, x3, x4, x5, ← hA1, ← hA, z7, z8]
            refine Thn_n ?_
            refine hK _ _ ?_
            clear hK K
            refine AW.cond_t rfl ?_
            refine AW.seq_k fun K hK => ?_
            refine AW.region (by decide) ?_
            simp only [push_cast, Nat.reduceAdd, Nat.reduceMul, Nat.reduceSub, Nat.reduceLeDiff, Nat.reduceLT, Nat.reduceEqDiff, Nat.reduceBEq, Nat.reduceBNe, Nat.reduceMod, Nat.reduceDiv, Int.reduceLE, Int.reduceLT, Int.reduceToNat, Int.reduceAdd, Int.reduceSub, Int.reduceMul, Int.reduceNeg, Int.reduceEq, Int.reduceBEq, Int.reduceBNe, ↓reduceIte, reduceCtorEq, String.reduceBNe, String.reduceEq, reduceDIte, Nat.reducePow, zN, z0, z2, z9, x1, x2, x3, x4, x5, ← hA1, ← hA, z7, z8]
            refine Thn_n ?_
            refine hK _ _ ?_
            clear hK K
            refine AW.ret ?_
            refine Thn_r ?_
            refine hQ _ _ _ ?_
            first | refine RetP.drop0 (Or.inr rfl) ?_ ?_ hwf | refine RetP.drop (Or.inr rfl) ?_ ?_ hwf
            · simp only [resA, resOne, resTv, AV.tv, push_cast, Nat.reduceAdd, Nat.reduceMul, Nat.reduceSub, Nat.reduceLeDiff, Nat.reduceLT, Nat.reduceEqDiff, Nat.reduceBEq, Nat.reduceBNe, Nat.reduceMod, Nat.reduceDiv, Int.reduceLE, Int.reduceLT, Int.reduceToNat, Int.reduceAdd, Int.reduceSub, Int.reduceMul, Int.reduceNeg, Int.reduceEq, Int.reduceBEq, Int.reduceBNe, ↓reduceIte, reduceCtorEq, String.reduceBNe, String.reduceEq, reduceDIte, Nat.reducePow, zN, z0, z2, z9, x1, x2, x3, x4, x5, ← hA1, ← hA, z7, z8]
            · rfl
          · have z7 : decide ((2147483648 : Int) < A) = false := decide_eq_false (by omega)
            have z8 : decide (A < -2147483648) = false := decide_eq_false (by omega)
            obtain ⟨sT, hne, hcT⟩ := hTx A hc.1 hc.2
            refine AW.exit ?_
            refine Thn_e ?_
            clear hK K
            refine Thn_e ?_
            refine InB_here ?_
            refine Thn_n ?_
            refine hK _ _ ?_
            clear hK K
            refine AW.seq_k fun K hK => ?_
            refine AW.region (by decide) ?_
            simp only [push_cast, Nat.reduceAdd, Nat.reduceMul, Nat.reduceSub, Nat.reduceLeDiff, Nat.reduceLT, Nat.reduceEqDiff, Nat.reduceBEq, Nat.reduceBNe, Nat.reduceMod, Nat.reduceDiv, Int.reduceLE, Int.reduceLT, Int.reduceToNat, Int.reduceAdd, Int.reduceSub, Int.reduceMul, Int.reduceNeg, Int.reduceEq, Int.reduceBEq, Int.reduceBNe, ↓reduceIte, reduceCtorEq, String.reduceBNe, String.reduceEq, reduceDIte, Nat.reducePow, zN, z0, z2, z9, x1, x2, x3, x4, x5, ← hA1, ← hA, z7, z8, hne]
            refine Thn_n ?_
            refine hK _ _ ?_
            clear hK K
            refine AW.seq_k fun K hK => ?_
            refine AW.seq_k fun K hK => ?_
            refine AW.region (by decide) ?_
            simp only [push_cast, Nat.reduceAdd, Nat.reduceMul, Nat.reduceSub, Nat.reduceLeDiff, Nat.reduceLT, Nat.reduceEqDiff, Nat.reduceBEq, Nat.reduceBNe, Nat.reduceMod, Nat.reduceDiv, Int.reduceLE, Int.reduceLT, Int.reduceToNat, Int.reduceAdd, Int.reduceSub, Int.reduceMul, Int.reduceNeg, Int.reduceEq, Int.reduceBEq, Int.reduceBNe, ↓reduceIte, reduceCtorEq, String.reduceBNe, String.reduceEq, reduceDIte, Nat.reducePow, zN, z0, z2, z9, x1, x2, x3, x4, x5, ← hA1, ← hA, z7, z8, hne]
            refine Thn_n ?_
            refine hK _ _ ?_
            clear hK K
            refine AW.cond_f rfl ?_
            refine AW.skip ?_
            refine Thn_n ?_
            refine hK _ _ ?_
            clear hK K
            refine AW.seq_k fun K hK => ?_
            refine AW.seq_k fun K hK => ?_
            refine AW.region (by decide) ?_
            simp only [push_cast, Nat.reduceAdd, Nat.reduceMul, Nat.reduceSub, Nat.reduceLeDiff, Nat.reduceLT, Nat.reduceEqDiff, Nat.reduceBEq, Nat.reduceBNe, Nat.reduceMod, Nat.reduceDiv, Int.reduceLE, Int.reduceLT, Int.reduceToNat, Int.reduceAdd, Int.reduceSub, Int.reduceMul, Int.reduceNeg, Int.reduceEq, Int.reduceBEq, Int.reduceBNe, ↓reduceIte, reduceCtorEq, String.reduceBNe, String.reduceEq, reduceDIte, Nat.reducePow, zN, z0, z2, z9, x1, x2, x3, x4, x5, ← hA1, ← hA, z7, z8, hne]
            refine CThen.by (hcT) ?_
            simp only [push_cast, Nat.reduceAdd, Nat.reduceMul, Nat.reduceSub, Nat.reduceLeDiff, Nat.reduceLT, Nat.reduceEqDiff, Nat.reduceBEq, Nat.reduceBNe, Nat.reduceMod, Nat.reduceDiv, Int.reduceLE, Int.reduceLT, Int.reduceToNat, Int.reduceAdd, Int.reduceSub, Int.reduceMul, Int.reduceNeg, Int.reduceEq, Int.reduceBEq, Int.reduceBNe, ↓reduceIte, reduceCtorEq, String.reduceBNe, String.reduceEq, reduceDIte, Nat.reducePow, zN, z0, z2, z9, x1, x2, x3, x4, x5, ← hA1, ← hA, z7, z8, hne]
            refine Thn_n ?_
            refine hK _ _ ?_
            clear hK K
            refine AW.cond_t rfl ?_
            refine AW.seq_k fun K hK => ?_
            refine AW.region (by decide) ?_
            simp only [push_cast, Nat.reduceAdd, Nat.reduceMul, Nat.reduceSub, Nat.reduceLeDiff, Nat.reduceLT, Nat.reduceEqDiff, Nat.reduceBEq, Nat.reduceBNe, Nat.reduceMod, Nat.reduceDiv, Int.reduceLE, Int.reduceLT, Int.reduceToNat, Int.reduceAdd, Int.reduceSub, Int.reduceMul, Int.reduceNeg, Int.reduceEq, Int.reduceBEq, Int.reduceBNe, ↓reduceIte, reduceCtorEq, String.reduceBNe, String.reduceEq, reduceDIte, Nat.reducePow, zN, z0, z2, z9, x1, x2, x3, x4, x5, ← hA1, ← hA, z7, z8, hne]
            refine Thn_n ?_
            refine hK _ _ ?_
            clear hK K
            refine AW.ret ?_
            refine Thn_r ?_
            refine hQ _ _ _ ?_
            first | refine RetP.drop0 (Or.inr rfl) ?_ ?_ hwf | refine RetP.drop (Or.inr rfl) ?_ ?_ hwf
            · simp only [resA, resOne, resTv, AV.tv, push_cast, Nat.reduceAdd, Nat.reduceMul, Nat.reduceSub, Nat.reduceLeDiff, Nat.reduceLT, Nat.reduceEqDiff, Nat.reduceBEq, Nat.reduceBNe, Nat.reduceMod, Nat.reduceDiv, Int.reduceLE, Int.reduceLT, Int.reduceToNat, Int.reduceAdd, Int.reduceSub, Int.reduceMul, Int.reduceNeg, Int.reduceEq, Int.reduceBEq, Int.reduceBNe, ↓reduceIte, reduceCtorEq, String.reduceBNe, String.reduceEq, reduceDIte, Nat.reducePow, zN, z0, z2, z9, x1, x2, x3, x4, x5, ← hA1, ← hA, z7, z8, hne]
            · rfl
theorem rparse_bp (t : ByteArray) (N : Nat) (m : AMem) (hN : t.size = N) (hN1 : N ≤ 1000) (hTx : ∀ A : Int, -2147483648 ≤ A → A ≤ 2147483648 → ∃ s : ByteArray, (s.toList == t.toList) = false ∧ Ctr Tryd.prog 38 [.one (.int .i64 A)] m (.one (.str s)) m) (h0 : 0 < N) (c0 : Nat) (hc0 : (atB t 0).toNat = c0) (h45 : c0 ≠ 45) : Ctr Tryd.prog 36 [.one (.str t)] m (.tup [(false, [.int .i64 (0)]), (false, [.int .i64 (10)])]) m := by
  refine Ctr.enter Tryd.func36 rfl (by decide) (rs := [.tmp 2, .tmp 3]) (nt := 128) rfl rfl fun hwf Q hQ => ?_
  have zN : (t.size : Int) = (N : Int) := by rw [hN]
  have z0 : decide ((0 : Int) < (N : Int)) = true := decide_eq_true (by omega)
  have z2 : IntKind.i64.wrap ((N : Int) - 1) = (N : Int) - 1 := wi (by omega)
  have z9 : ∀ l : List UInt8, (l == l) = true := fun l => beq_self_eq_true l
  have u3 : t[(0 : Nat)]? = some (atB t 0) := atB_get (by omega)
  have u4 : ((c0 : Int) == 45) = false := by exact beq_false_of_ne (by omega)
  iterate 2
    refine AW.seq_k fun K hK => ?_
    refine AW.region (by decide) ?_
    simp only [push_cast, Nat.reduceAdd, Nat.reduceMul, Nat.reduceSub, Nat.reduceLeDiff, Nat.reduceLT, Nat.reduceEqDiff, Nat.reduceBEq, Nat.reduceBNe, Nat.reduceMod, Nat.reduceDiv, Int.reduceLE, Int.reduceLT, Int.reduceToNat, Int.reduceAdd, Int.reduceSub, Int.reduceMul, Int.reduceNeg, Int.reduceEq, Int.reduceBEq, Int.reduceBNe, ↓reduceIte, reduceCtorEq, String.reduceBNe, String.reduceEq, reduceDIte, Nat.reducePow, zN, z0, z2, z9, u3, hc0, u4]
    refine Thn_n ?_
    refine hK _ _ ?_
    clear hK K
  refine AW.seq_k fun K hK => ?_
  refine AW.seq_k fun K hK => ?_
  refine AW.region (by decide) ?_
  simp only [push_cast, Nat.reduceAdd, Nat.reduceMul, Nat.reduceSub, Nat.reduceLeDiff, Nat.reduceLT, Nat.reduceEqDiff, Nat.reduceBEq, Nat.reduceBNe, Nat.reduceMod, Nat.reduceDiv, Int.reduceLE, Int.reduceLT, Int.reduceToNat, Int.reduceAdd, Int.reduceSub, Int.reduceMul, Int.reduceNeg, Int.reduceEq, Int.reduceBEq, Int.reduceBNe, ↓reduceIte, reduceCtorEq, String.reduceBNe, String.reduceEq, reduceDIte, Nat.reducePow, zN, z0, z2, z9, u3, hc0, u4]
  refine Thn_n ?_
  refine hK _ _ ?_
  clear hK K
  refine AW.cond_f rfl ?_
  refine AW.skip ?_
  refine Thn_n ?_
  refine hK _ _ ?_
  clear hK K
  refine AW.seq_k fun K hK => ?_
  refine AW.region (by decide) ?_
  simp only [push_cast, Nat.reduceAdd, Nat.reduceMul, Nat.reduceSub, Nat.reduceLeDiff, Nat.reduceLT, Nat.reduceEqDiff, Nat.reduceBEq, Nat.reduceBNe, Nat.reduceMod, Nat.reduceDiv, Int.reduceLE, Int.reduceLT, Int.reduceToNat, Int.reduceAdd, Int.reduceSub, Int.reduceMul, Int.reduceNeg, Int.reduceEq, Int.reduceBEq, Int.reduceBNe, ↓reduceIte, reduceCtorEq, String.reduceBNe, String.reduceEq, reduceDIte, Nat.reducePow, zN, z0, z2, z9, u3, hc0, u4]
  refine Thn_n ?_
  refine hK _ _ ?_
  clear hK K
  refine AW.seq_k fun K hK => ?_
  refine AW.seq_k fun K hK => ?_
  refine AW.region (by decide) ?_
  simp only [push_cast, Nat.reduceAdd, Nat.reduceMul, Nat.reduceSub, Nat.reduceLeDiff, Nat.reduceLT, Nat.reduceEqDiff, Nat.reduceBEq, Nat.reduceBNe, Nat.reduceMod, Nat.reduceDiv, Int.reduceLE, Int.reduceLT, Int.reduceToNat, Int.reduceAdd, Int.reduceSub, Int.reduceMul, Int.reduceNeg, Int.reduceEq, Int.reduceBEq, Int.reduceBNe, ↓reduceIte, reduceCtorEq, String.reduceBNe, String.reduceEq, reduceDIte, Nat.reducePow, zN, z0, z2, z9, u3, hc0, u4]
  refine Thn_n ?_
  refine hK _ _ ?_
  clear hK K
  refine AW.block ?_
  refine AW.loopK [0, 4] (fun z => 0 ≤ z.1 ∧ z.1 ≤ N ∧ 0 ≤ z.2 ∧ z.2 ≤ N) (fun z => [(5, .one (.int .i64 (z.2 : Int))), (6, .one (.int .i64 (z.1 : Int)))]) (fun z => []) (fun z => N - z.1) (0, N) (by show 0 ≤ 0 ∧ 0 ≤ N ∧ 0 ≤ N ∧ N ≤ N; omega) ?_ ?_ fun z hi8 => ?_
  · first | rfl | (simp only [Keeps, Tm.get_cons, Nat.reduceEqDiff, ↓reduceIte, if_true, if_false, ite_true, ite_false, true_and, and_true, and_self, reduceCtorEq] <;> rfl)
  · first | rfl | (simp only [setAll, push_cast, Nat.reduceAdd, Nat.reduceMul, Nat.reduceSub, Nat.reduceLeDiff, Nat.reduceLT, Nat.reduceEqDiff, Nat.reduceBEq, Nat.reduceBNe, Nat.reduceMod, Nat.reduceDiv, Int.reduceLE, Int.reduceLT, Int.reduceToNat, Int.reduceAdd, Int.reduceSub, Int.reduceMul, Int.reduceNeg, Int.reduceEq, Int.reduceBEq, Int.reduceBNe, ↓reduceIte, reduceCtorEq, String.reduceBNe, String.reduceEq, reduceDIte, Nat.reducePow, zN, z0, z2, z9, u3, hc0, u4] <;> rfl)
  obtain ⟨i, d⟩ := z
  have hI : 0 ≤ i ∧ i ≤ N ∧ 0 ≤ d ∧ d ≤ N := hi8
  try simp only [keepL, setAll, push_cast, Nat.reduceAdd, Nat.reduceMul, Nat.reduceSub, Nat.reduceLeDiff, Nat.reduceLT, Nat.reduceEqDiff, Nat.reduceBEq, Nat.reduceBNe, Nat.reduceMod, Nat.reduceDiv, Int.reduceLE, Int.reduceLT, Int.reduceToNat, Int.reduceAdd, Int.reduceSub, Int.reduceMul, Int.reduceNeg, Int.reduceEq, Int.reduceBEq, Int.reduceBNe, ↓reduceIte, reduceCtorEq, String.reduceBNe, String.reduceEq, reduceDIte, Nat.reducePow, zN, z0, z2, z9, u3, hc0, u4]
  refine AW.seq_k fun K hK => ?_
  refine AW.seq_k fun K hK => ?_
  refine AW.region (by decide) ?_
  simp only [push_cast, Nat.reduceAdd, Nat.reduceMul, Nat.reduceSub, Nat.reduceLeDiff, Nat.reduceLT, Nat.reduceEqDiff, Nat.reduceBEq, Nat.reduceBNe, Nat.reduceMod, Nat.reduceDiv, Int.reduceLE, Int.reduceLT, Int.reduceToNat, Int.reduceAdd, Int.reduceSub, Int.reduceMul, Int.reduceNeg, Int.reduceEq, Int.reduceBEq, Int.reduceBNe, ↓reduceIte, reduceCtorEq, String.reduceBNe, String.reduceEq, reduceDIte, Nat.reducePow, zN, z0, z2, z9, u3, hc0, u4]
  refine Thn_n ?_
  refine hK _ _ ?_
  clear hK K
  refine AW.cond rfl (fun h26 => ?_) (fun h26 => ?_)
  · have hlt : i < N := by have := of_decide_eq_true h26; omega
    obtain ⟨e, he⟩ : ∃ e, e = (atB t i).toNat := ⟨_, rfl⟩
    have y1 : (0 : Int) ≤ (i : Int) := by omega
    have y2 : ((i : Int)).toNat = i := Int.toNat_natCast _
    have y3 : t[i]? = some (atB t i) := atB_get (by omega)
    have y4 : (atB t i).toNat = e := he.symm
    have y5 : IntKind.i64.wrap ((i : Int) + 1) = (i : Int) + 1 := wi (by omega)
    have hcs : e ≠ 46 ∨ (e = 46 ∧ d = N) ∨ (e = 46 ∧ d ≠ N) := by omega
    rcases hcs with hc | hc | hc
    · have y6 : (((e : Int) : Int) == 46) = false := by exact beq_false_of_ne (by omega)
      refine AW.skip ?_
      refine Thn_n ?_
      refine hK _ _ ?_
      clear hK K
      refine AW.seq_k fun K hK => ?_
      refine AW.block ?_
      refine AW.seq_k fun K hK => ?_
      refine AW.region (by decide) ?_
      simp only [push_cast, Nat.reduceAdd, Nat.reduceMul, Nat.reduceSub, Nat.reduceLeDiff, Nat.reduceLT, Nat.reduceEqDiff, Nat.reduceBEq, Nat.reduceBNe, Nat.reduceMod, Nat.reduceDiv, Int.reduceLE, Int.reduceLT, Int.reduceToNat, Int.reduceAdd, Int.reduceSub, Int.reduceMul, Int.reduceNeg, Int.reduceEq, Int.reduceBEq, Int.reduceBNe, ↓reduceIte, reduceCtorEq, String.reduceBNe, String.reduceEq, reduceDIte, Nat.reducePow, zN, z0, z2, z9, u3, hc0, u4, y1, y2, y3, y4, y5, y6]
      refine Thn_n ?_
      refine hK _ _ ?_
      clear hK K
      refine AW.cond_f rfl ?_
      refine AW.skip ?_
      refine InB_n ?_
      refine Thn_n ?_
      refine hK _ _ ?_
      clear hK K
      refine AW.region (by decide) ?_
      simp only [push_cast, Nat.reduceAdd, Nat.reduceMul, Nat.reduceSub, Nat.reduceLeDiff, Nat.reduceLT, Nat.reduceEqDiff, Nat.reduceBEq, Nat.reduceBNe, Nat.reduceMod, Nat.reduceDiv, Int.reduceLE, Int.reduceLT, Int.reduceToNat, Int.reduceAdd, Int.reduceSub, Int.reduceMul, Int.reduceNeg, Int.reduceEq, Int.reduceBEq, Int.reduceBNe, ↓reduceIte, reduceCtorEq, String.reduceBNe, String.reduceEq, reduceDIte, Nat.reducePow, zN, z0, z2, z9, u3, hc0, u4, y1, y2, y3, y4, y5, y6]
      refine Thn_n ?_
      refine ⟨(i + 1, d), (by show 0 ≤ i + 1 ∧ i + 1 ≤ N ∧ 0 ≤ _ ∧ _ ≤ N; omega), (by show N - (i + 1) < N - i; omega), ?_⟩
      try simp only [keepL, setAll, push_cast, Nat.reduceAdd, Nat.reduceMul, Nat.reduceSub, Nat.reduceLeDiff, Nat.reduceLT, Nat.reduceEqDiff, Nat.reduceBEq, Nat.reduceBNe, Nat.reduceMod, Nat.reduceDiv, Int.reduceLE, Int.reduceLT, Int.reduceToNat, Int.reduceAdd, Int.reduceSub, Int.reduceMul, Int.reduceNeg, Int.reduceEq, Int.reduceBEq, Int.reduceBNe, ↓reduceIte, reduceCtorEq, String.reduceBNe, String.reduceEq, reduceDIte, Nat.reducePow, zN, z0, z2, z9, u3, hc0, u4, y1, y2, y3, y4, y5, y6]
      exact Weak.same (by simp only [Keeps, Tm.get_cons, Nat.reduceEqDiff, ↓reduceIte, if_true, if_false, ite_true, ite_false, true_and, and_true, and_self, reduceCtorEq]) (by first | rfl | simp only [Keeps, Tm.get_cons, Nat.reduceEqDiff, ↓reduceIte, if_true, if_false, ite_true, ite_false, true_and, and_true, and_self, reduceCtorEq])
    · have y6 : (((e : Int) : Int) == 46) = true := by (rw [show ((e : Int) : Int) = 46 by omega]; exact beq_self_eq_true _)
      have y7 : (((d : Int) : Int) == (N : Int)) = true := by (rw [show ((d : Int) : Int) = (N : Int) by omega]; exact beq_self_eq_true _)
      refine AW.skip ?_
      refine Thn_n ?_
      refine hK _ _ ?_
      clear hK K
      refine AW.seq_k fun K hK => ?_
      refine AW.block ?_
      refine AW.seq_k fun K hK => ?_
      refine AW.region (by decide) ?_
      simp only [push_cast, Nat.reduceAdd, Nat.reduceMul, Nat.reduceSub, Nat.reduceLeDiff, Nat.reduceLT, Nat.reduceEqDiff, Nat.reduceBEq, Nat.reduceBNe, Nat.reduceMod, Nat.reduceDiv, Int.reduceLE, Int.reduceLT, Int.reduceToNat, Int.reduceAdd, Int.reduceSub, Int.reduceMul, Int.reduceNeg, Int.reduceEq, Int.reduceBEq, Int.reduceBNe, ↓reduceIte, reduceCtorEq, String.reduceBNe, String.reduceEq, reduceDIte, Nat.reducePow, zN, z0, z2, z9, u3, hc0, u4, y1, y2, y3, y4, y5, y6, y7]
      refine Thn_n ?_
      refine hK _ _ ?_
      clear hK K
      refine AW.cond_t rfl ?_
      refine AW.region (by decide) ?_
      simp only [push_cast, Nat.reduceAdd, Nat.reduceMul, Nat.reduceSub, Nat.reduceLeDiff, Nat.reduceLT, Nat.reduceEqDiff, Nat.reduceBEq, Nat.reduceBNe, Nat.reduceMod, Nat.reduceDiv, Int.reduceLE, Int.reduceLT, Int.reduceToNat, Int.reduceAdd, Int.reduceSub, Int.reduceMul, Int.reduceNeg, Int.reduceEq, Int.reduceBEq, Int.reduceBNe, ↓reduceIte, reduceCtorEq, String.reduceBNe, String.reduceEq, reduceDIte, Nat.reducePow, zN, z0, z2, z9, u3, hc0, u4, y1, y2, y3, y4, y5, y6, y7]
      refine InB_n ?_
      refine Thn_n ?_
      refine hK _ _ ?_
      clear hK K
      refine AW.region (by decide) ?_
      simp only [push_cast, Nat.reduceAdd, Nat.reduceMul, Nat.reduceSub, Nat.reduceLeDiff, Nat.reduceLT, Nat.reduceEqDiff, Nat.reduceBEq, Nat.reduceBNe, Nat.reduceMod, Nat.reduceDiv, Int.reduceLE, Int.reduceLT, Int.reduceToNat, Int.reduceAdd, Int.reduceSub, Int.reduceMul, Int.reduceNeg, Int.reduceEq, Int.reduceBEq, Int.reduceBNe, ↓reduceIte, reduceCtorEq, String.reduceBNe, String.reduceEq, reduceDIte, Nat.reducePow, zN, z0, z2, z9, u3, hc0, u4, y1, y2, y3, y4, y5, y6, y7]
      refine Thn_n ?_
      refine ⟨(i + 1, i), (by show 0 ≤ i + 1 ∧ i + 1 ≤ N ∧ 0 ≤ _ ∧ _ ≤ N; omega), (by show N - (i + 1) < N - i; omega), ?_⟩
      try simp only [keepL, setAll, push_cast, Nat.reduceAdd, Nat.reduceMul, Nat.reduceSub, Nat.reduceLeDiff, Nat.reduceLT, Nat.reduceEqDiff, Nat.reduceBEq, Nat.reduceBNe, Nat.reduceMod, Nat.reduceDiv, Int.reduceLE, Int.reduceLT, Int.reduceToNat, Int.reduceAdd, Int.reduceSub, Int.reduceMul, Int.reduceNeg, Int.reduceEq, Int.reduceBEq, Int.reduceBNe, ↓reduceIte, reduceCtorEq, String.reduceBNe, String.reduceEq, reduceDIte, Nat.reducePow, zN, z0, z2, z9, u3, hc0, u4, y1, y2, y3, y4, y5, y6, y7]
      exact Weak.same (by simp only [Keeps, Tm.get_cons, Nat.reduceEqDiff, ↓reduceIte, if_true, if_false, ite_true, ite_false, true_and, and_true, and_self, reduceCtorEq]) (by first | rfl | simp only [Keeps, Tm.get_cons, Nat.reduceEqDiff, ↓reduceIte, if_true, if_false, ite_true, ite_false, true_and, and_true, and_self, reduceCtorEq])
    · have y6 : (((e : Int) : Int) == 46) = true := by (rw [show ((e : Int) : Int) = 46 by omega]; exact beq_self_eq_true _)
      have y7 : (((d : Int) : Int) == (N : Int)) = false := by exact beq_false_of_ne (by omega)
      refine AW.skip ?_
      refine Thn_n ?_
      refine hK _ _ ?_
      clear hK K
      refine AW.seq_k fun K hK => ?_
      refine AW.block ?_
      refine AW.seq_k fun K hK => ?_
      refine AW.region (by decide) ?_
      simp only [push_cast, Nat.reduceAdd, Nat.reduceMul, Nat.reduceSub, Nat.reduceLeDiff, Nat.reduceLT, Nat.reduceEqDiff, Nat.reduceBEq, Nat.reduceBNe, Nat.reduceMod, Nat.reduceDiv, Int.reduceLE, Int.reduceLT, Int.reduceToNat, Int.reduceAdd, Int.reduceSub, Int.reduceMul, Int.reduceNeg, Int.reduceEq, Int.reduceBEq, Int.reduceBNe, ↓reduceIte, reduceCtorEq, String.reduceBNe, String.reduceEq, reduceDIte, Nat.reducePow, zN, z0, z2, z9, u3, hc0, u4, y1, y2, y3, y4, y5, y6, y7]
      refine Thn_n ?_
      refine hK _ _ ?_
      clear hK K
      refine AW.cond_f rfl ?_
      refine AW.skip ?_
      refine InB_n ?_
      refine Thn_n ?_
      refine hK _ _ ?_
      clear hK K
      refine AW.region (by decide) ?_
      simp only [push_cast, Nat.reduceAdd, Nat.reduceMul, Nat.reduceSub, Nat.reduceLeDiff, Nat.reduceLT, Nat.reduceEqDiff, Nat.reduceBEq, Nat.reduceBNe, Nat.reduceMod, Nat.reduceDiv, Int.reduceLE, Int.reduceLT, Int.reduceToNat, Int.reduceAdd, Int.reduceSub, Int.reduceMul, Int.reduceNeg, Int.reduceEq, Int.reduceBEq, Int.reduceBNe, ↓reduceIte, reduceCtorEq, String.reduceBNe, String.reduceEq, reduceDIte, Nat.reducePow, zN, z0, z2, z9, u3, hc0, u4, y1, y2, y3, y4, y5, y6, y7]
      refine Thn_n ?_
      refine ⟨(i + 1, d), (by show 0 ≤ i + 1 ∧ i + 1 ≤ N ∧ 0 ≤ _ ∧ _ ≤ N; omega), (by show N - (i + 1) < N - i; omega), ?_⟩
      try simp only [keepL, setAll, push_cast, Nat.reduceAdd, Nat.reduceMul, Nat.reduceSub, Nat.reduceLeDiff, Nat.reduceLT, Nat.reduceEqDiff, Nat.reduceBEq, Nat.reduceBNe, Nat.reduceMod, Nat.reduceDiv, Int.reduceLE, Int.reduceLT, Int.reduceToNat, Int.reduceAdd, Int.reduceSub, Int.reduceMul, Int.reduceNeg, Int.reduceEq, Int.reduceBEq, Int.reduceBNe, ↓reduceIte, reduceCtorEq, String.reduceBNe, String.reduceEq, reduceDIte, Nat.reducePow, zN, z0, z2, z9, u3, hc0, u4, y1, y2, y3, y4, y5, y6, y7]
      exact Weak.same (by simp only [Keeps, Tm.get_cons, Nat.reduceEqDiff, ↓reduceIte, if_true, if_false, ite_true, ite_false, true_and, and_true, and_self, reduceCtorEq]) (by first | rfl | simp only [Keeps, Tm.get_cons, Nat.reduceEqDiff, ↓reduceIte, if_true, if_false, ite_true, ite_false, true_and, and_true, and_self, reduceCtorEq])
  · have x1 : IntKind.i64.wrap ((d : Int) - 0) = (d : Int) := wi (by omega)
    have x2 : IntKind.i64.wrap ((N : Int) - (d : Int)) = (N : Int) - (d : Int) := wi (by omega)
    have hcs : d = 0 ∨ (d ≠ 0 ∧ 5 < (d : Int)) ∨ (d ≠ 0 ∧ ¬ 5 < (d : Int) ∧ 17 < (N : Int) - (d : Int)) ∨ (d ≠ 0 ∧ ¬ 5 < (d : Int) ∧ ¬ 17 < (N : Int) - (d : Int)) := by omega
    rcases hcs with hc | hc | hc | hc
    · have x3 : (((d : Int) : Int) == 0) = true := by (rw [show ((d : Int) : Int) = 0 by omega]; exact beq_self_eq_true _)
      refine AW.exit ?_
      refine Thn_e ?_
      clear hK K
      refine Thn_e ?_
      refine InB_here ?_
      refine Thn_n ?_
      refine hK _ _ ?_
      clear hK K
      refine AW.seq_k fun K hK => ?_
      refine AW.seq_k fun K hK => ?_
      refine AW.region (by decide) ?_
      simp only [push_cast, Nat.reduceAdd, Nat.reduceMul, Nat.reduceSub, Nat.reduceLeDiff, Nat.reduceLT, Nat.reduceEqDiff, Nat.reduceBEq, Nat.reduceBNe, Nat.reduceMod, Nat.reduceDiv, Int.reduceLE, Int.reduceLT, Int.reduceToNat, Int.reduceAdd, Int.reduceSub, Int.reduceMul, Int.reduceNeg, Int.reduceEq, Int.reduceBEq, Int.reduceBNe, ↓reduceIte, reduceCtorEq, String.reduceBNe, String.reduceEq, reduceDIte, Nat.reducePow, zN, z0, z2, z9, u3, hc0, u4, x1, x2, x3]
      refine Thn_n ?_
      refine hK _ _ ?_
      clear hK K
      refine AW.cond_t rfl ?_
      refine AW.seq_k fun K hK => ?_
      refine AW.region (by decide) ?_
      simp only [push_cast, Nat.reduceAdd, Nat.reduceMul, Nat.reduceSub, Nat.reduceLeDiff, Nat.reduceLT, Nat.reduceEqDiff, Nat.reduceBEq, Nat.reduceBNe, Nat.reduceMod, Nat.reduceDiv, Int.reduceLE, Int.reduceLT, Int.reduceToNat, Int.reduceAdd, Int.reduceSub, Int.reduceMul, Int.reduceNeg, Int.reduceEq, Int.reduceBEq, Int.reduceBNe, ↓reduceIte, reduceCtorEq, String.reduceBNe, String.reduceEq, reduceDIte, Nat.reducePow, zN, z0, z2, z9, u3, hc0, u4, x1, x2, x3]
      refine Thn_n ?_
      refine hK _ _ ?_
      clear hK K
      refine AW.ret ?_
      refine Thn_r ?_
      refine hQ _ _ _ ?_
      first | refine RetP.drop0 (Or.inr rfl) ?_ ?_ hwf | refine RetP.drop (Or.inr rfl) ?_ ?_ hwf
      · simp only [resA, resOne, resTv, AV.tv, push_cast, Nat.reduceAdd, Nat.reduceMul, Nat.reduceSub, Nat.reduceLeDiff, Nat.reduceLT, Nat.reduceEqDiff, Nat.reduceBEq, Nat.reduceBNe, Nat.reduceMod, Nat.reduceDiv, Int.reduceLE, Int.reduceLT, Int.reduceToNat, Int.reduceAdd, Int.reduceSub, Int.reduceMul, Int.reduceNeg, Int.reduceEq, Int.reduceBEq, Int.reduceBNe, ↓reduceIte, reduceCtorEq, String.reduceBNe, String.reduceEq, reduceDIte, Nat.reducePow, zN, z0, z2, z9, u3, hc0, u4, x1, x2, x3]
      · rfl
    · have x3 : (((d : Int) : Int) == 0) = false := by exact beq_false_of_ne (by omega)
      have x4 : decide ((5 : Int) < (d : Int)) = true := decide_eq_true hc.2
      refine AW.exit ?_
      refine Thn_e ?_
      clear hK K
      refine Thn_e ?_
      refine InB_here ?_
      refine Thn_n ?_
      refine hK _ _ ?_
      clear hK K
      refine AW.seq_k fun K hK => ?_
      refine AW.seq_k fun K hK => ?_
      refine AW.region (by decide) ?_
      simp only [push_cast, Nat.reduceAdd, Nat.reduceMul, Nat.reduceSub, Nat.reduceLeDiff, Nat.reduceLT, Nat.reduceEqDiff, Nat.reduceBEq, Nat.reduceBNe, Nat.reduceMod, Nat.reduceDiv, Int.reduceLE, Int.reduceLT, Int.reduceToNat, Int.reduceAdd, Int.reduceSub, Int.reduceMul, Int.reduceNeg, Int.reduceEq, Int.reduceBEq, Int.reduceBNe, ↓reduceIte, reduceCtorEq, String.reduceBNe, String.reduceEq, reduceDIte, Nat.reducePow, zN, z0, z2, z9, u3, hc0, u4, x1, x2, x3, x4]
      refine Thn_n ?_
      refine hK _ _ ?_
      clear hK K
      refine AW.cond_t rfl ?_
      refine AW.seq_k fun K hK => ?_
      refine AW.region (by decide) ?_
      simp only [push_cast, Nat.reduceAdd, Nat.reduceMul, Nat.reduceSub, Nat.reduceLeDiff, Nat.reduceLT, Nat.reduceEqDiff, Nat.reduceBEq, Nat.reduceBNe, Nat.reduceMod, Nat.reduceDiv, Int.reduceLE, Int.reduceLT, Int.reduceToNat, Int.reduceAdd, Int.reduceSub, Int.reduceMul, Int.reduceNeg, Int.reduceEq, Int.reduceBEq, Int.reduceBNe, ↓reduceIte, reduceCtorEq, String.reduceBNe, String.reduceEq, reduceDIte, Nat.reducePow, zN, z0, z2, z9, u3, hc0, u4, x1, x2, x3, x4]
      refine Thn_n ?_
      refine hK _ _ ?_
      clear hK K
      refine AW.ret ?_
      refine Thn_r ?_
      refine hQ _ _ _ ?_
      first | refine RetP.drop0 (Or.inr rfl) ?_ ?_ hwf | refine RetP.drop (Or.inr rfl) ?_ ?_ hwf
      · simp only [resA, resOne, resTv, AV.tv, push_cast, Nat.reduceAdd, Nat.reduceMul, Nat.reduceSub, Nat.reduceLeDiff, Nat.reduceLT, Nat.reduceEqDiff, Nat.reduceBEq, Nat.reduceBNe, Nat.reduceMod, Nat.reduceDiv, Int.reduceLE, Int.reduceLT, Int.reduceToNat, Int.reduceAdd, Int.reduceSub, Int.reduceMul, Int.reduceNeg, Int.reduceEq, Int.reduceBEq, Int.reduceBNe, ↓reduceIte, reduceCtorEq, String.reduceBNe, String.reduceEq, reduceDIte, Nat.reducePow, zN, z0, z2, z9, u3, hc0, u4, x1, x2, x3, x4]
      · rfl
    · have x3 : (((d : Int) : Int) == 0) = false := by exact beq_false_of_ne (by omega)
      have x4 : decide ((5 : Int) < (d : Int)) = false := decide_eq_false hc.2.1
      have x5 : decide ((17 : Int) < (N : Int) - (d : Int)) = true := decide_eq_true hc.2.2
      refine AW.exit ?_
      refine Thn_e ?_
      clear hK K
      refine Thn_e ?_
      refine InB_here ?_
      refine Thn_n ?_
      refine hK _ _ ?_
      clear hK K
      refine AW.seq_k fun K hK => ?_
      refine AW.seq_k fun K hK => ?_
      refine AW.region (by decide) ?_
      simp only [push_cast, Nat.reduceAdd, Nat.reduceMul, Nat.reduceSub, Nat.reduceLeDiff, Nat.reduceLT, Nat.reduceEqDiff, Nat.reduceBEq, Nat.reduceBNe, Nat.reduceMod, Nat.reduceDiv, Int.reduceLE, Int.reduceLT, Int.reduceToNat, Int.reduceAdd, Int.reduceSub, Int.reduceMul, Int.reduceNeg, Int.reduceEq, Int.reduceBEq, Int.reduceBNe, ↓reduceIte, reduceCtorEq, String.reduceBNe, String.reduceEq, reduceDIte, Nat.reducePow, zN, z0, z2, z9, u3, hc0, u4, x1, x2, x3, x4, x5]
      refine Thn_n ?_
      refine hK _ _ ?_
      clear hK K
      refine AW.cond_t rfl ?_
      refine AW.seq_k fun K hK => ?_
      refine AW.region (by decide) ?_
      simp only [push_cast, Nat.reduceAdd, Nat.reduceMul, Nat.reduceSub, Nat.reduceLeDiff, Nat.reduceLT, Nat.reduceEqDiff, Nat.reduceBEq, Nat.reduceBNe, Nat.reduceMod, Nat.reduceDiv, Int.reduceLE, Int.reduceLT, Int.reduceToNat, Int.reduceAdd, Int.reduceSub, Int.reduceMul, Int.reduceNeg, Int.reduceEq, Int.reduceBEq, Int.reduceBNe, ↓reduceIte, reduceCtorEq, String.reduceBNe, String.reduceEq, reduceDIte, Nat.reducePow, zN, z0, z2, z9, u3, hc0, u4, x1, x2, x3, x4, x5]
      refine Thn_n ?_
      refine hK _ _ ?_
      clear hK K
      refine AW.ret ?_
      refine Thn_r ?_
      refine hQ _ _ _ ?_
      first | refine RetP.drop0 (Or.inr rfl) ?_ ?_ hwf | refine RetP.drop (Or.inr rfl) ?_ ?_ hwf
      · simp only [resA, resOne, resTv, AV.tv, push_cast, Nat.reduceAdd, Nat.reduceMul, Nat.reduceSub, Nat.reduceLeDiff, Nat.reduceLT, Nat.reduceEqDiff, Nat.reduceBEq, Nat.reduceBNe, Nat.reduceMod, Nat.reduceDiv, Int.reduceLE, Int.reduceLT, Int.reduceToNat, Int.reduceAdd, Int.reduceSub, Int.reduceMul, Int.reduceNeg, Int.reduceEq, Int.reduceBEq, Int.reduceBNe, ↓reduceIte, reduceCtorEq, String.reduceBNe, String.reduceEq, reduceDIte, Nat.reducePow, zN, z0, z2, z9, u3, hc0, u4, x1, x2, x3, x4, x5]
      · rfl
    · have x3 : (((d : Int) : Int) == 0) = false := by exact beq_false_of_ne (by omega)
      have x4 : decide ((5 : Int) < (d : Int)) = false := decide_eq_false hc.2.1
      have x5 : decide ((17 : Int) < (N : Int) - (d : Int)) = false := decide_eq_false hc.2.2
      refine AW.exit ?_
      refine Thn_e ?_
      clear hK K
      refine Thn_e ?_
      refine InB_here ?_
      refine Thn_n ?_
      refine hK _ _ ?_
      clear hK K
      refine AW.seq_k fun K hK => ?_
      refine AW.seq_k fun K hK => ?_
      refine AW.region (by decide) ?_
      simp only [push_cast, Nat.reduceAdd, Nat.reduceMul, Nat.reduceSub, Nat.reduceLeDiff, Nat.reduceLT, Nat.reduceEqDiff, Nat.reduceBEq, Nat.reduceBNe, Nat.reduceMod, Nat.reduceDiv, Int.reduceLE, Int.reduceLT, Int.reduceToNat, Int.reduceAdd, Int.reduceSub, Int.reduceMul, Int.reduceNeg, Int.reduceEq, Int.reduceBEq, Int.reduceBNe, ↓reduceIte, reduceCtorEq, String.reduceBNe, String.reduceEq, reduceDIte, Nat.reducePow, zN, z0, z2, z9, u3, hc0, u4, x1, x2, x3, x4, x5]
      refine Thn_n ?_
      refine hK _ _ ?_
      clear hK K
      refine AW.cond_f rfl ?_
      refine AW.skip ?_
      refine Thn_n ?_
      refine hK _ _ ?_
      clear hK K
      refine AW.seq_k fun K hK => ?_
      refine AW.region (by decide) ?_
      simp only [push_cast, Nat.reduceAdd, Nat.reduceMul, Nat.reduceSub, Nat.reduceLeDiff, Nat.reduceLT, Nat.reduceEqDiff, Nat.reduceBEq, Nat.reduceBNe, Nat.reduceMod, Nat.reduceDiv, Int.reduceLE, Int.reduceLT, Int.reduceToNat, Int.reduceAdd, Int.reduceSub, Int.reduceMul, Int.reduceNeg, Int.reduceEq, Int.reduceBEq, Int.reduceBNe, ↓reduceIte, reduceCtorEq, String.reduceBNe, String.reduceEq, reduceDIte, Nat.reducePow, zN, z0, z2, z9, u3, hc0, u4, x1, x2, x3, x4, x5]
      refine Thn_n ?_
      refine hK _ _ ?_
      clear hK K
      refine AW.seq_k fun K hK => ?_
      refine AW.seq_k fun K hK => ?_
      refine AW.region (by decide) ?_
      simp only [push_cast, Nat.reduceAdd, Nat.reduceMul, Nat.reduceSub, Nat.reduceLeDiff, Nat.reduceLT, Nat.reduceEqDiff, Nat.reduceBEq, Nat.reduceBNe, Nat.reduceMod, Nat.reduceDiv, Int.reduceLE, Int.reduceLT, Int.reduceToNat, Int.reduceAdd, Int.reduceSub, Int.reduceMul, Int.reduceNeg, Int.reduceEq, Int.reduceBEq, Int.reduceBNe, ↓reduceIte, reduceCtorEq, String.reduceBNe, String.reduceEq, reduceDIte, Nat.reducePow, zN, z0, z2, z9, u3, hc0, u4, x1, x2, x3, x4, x5]
      refine Thn_n ?_
      refine hK _ _ ?_
      clear hK K
      refine AW.block ?_
      refine AW.loopK [0, 4, 5] (fun z => 0 ≤ z.1 ∧ z.1 ≤ d) (fun z => [(7, .one (.int .i64 z.2)), (8, .one (.int .i64 (z.1 : Int)))]) (fun z => []) (fun z => d - z.1) (0, 0) (by show 0 ≤ 0 ∧ 0 ≤ d; omega) ?_ ?_ fun z hi31 => ?_
      · first | rfl | (simp only [Keeps, Tm.get_cons, Nat.reduceEqDiff, ↓reduceIte, if_true, if_false, ite_true, ite_false, true_and, and_true, and_self, reduceCtorEq] <;> rfl)
      · first | rfl | (simp only [setAll, push_cast, Nat.reduceAdd, Nat.reduceMul, Nat.reduceSub, Nat.reduceLeDiff, Nat.reduceLT, Nat.reduceEqDiff, Nat.reduceBEq, Nat.reduceBNe, Nat.reduceMod, Nat.reduceDiv, Int.reduceLE, Int.reduceLT, Int.reduceToNat, Int.reduceAdd, Int.reduceSub, Int.reduceMul, Int.reduceNeg, Int.reduceEq, Int.reduceBEq, Int.reduceBNe, ↓reduceIte, reduceCtorEq, String.reduceBNe, String.reduceEq, reduceDIte, Nat.reducePow, zN, z0, z2, z9, u3, hc0, u4, x1, x2, x3, x4, x5] <;> rfl)
      obtain ⟨i2, n2⟩ := z
      have hI2 : 0 ≤ i2 ∧ i2 ≤ d := hi31
      try simp only [keepL, setAll, push_cast, Nat.reduceAdd, Nat.reduceMul, Nat.reduceSub, Nat.reduceLeDiff, Nat.reduceLT, Nat.reduceEqDiff, Nat.reduceBEq, Nat.reduceBNe, Nat.reduceMod, Nat.reduceDiv, Int.reduceLE, Int.reduceLT, Int.reduceToNat, Int.reduceAdd, Int.reduceSub, Int.reduceMul, Int.reduceNeg, Int.reduceEq, Int.reduceBEq, Int.reduceBNe, ↓reduceIte, reduceCtorEq, String.reduceBNe, String.reduceEq, reduceDIte, Nat.reducePow, zN, z0, z2, z9, u3, hc0, u4, x1, x2, x3, x4, x5]
      refine AW.seq_k fun K hK => ?_
      refine AW.seq_k fun K hK => ?_
      refine AW.region (by decide) ?_
      simp only [push_cast, Nat.reduceAdd, Nat.reduceMul, Nat.reduceSub, Nat.reduceLeDiff, Nat.reduceLT, Nat.reduceEqDiff, Nat.reduceBEq, Nat.reduceBNe, Nat.reduceMod, Nat.reduceDiv, Int.reduceLE, Int.reduceLT, Int.reduceToNat, Int.reduceAdd, Int.reduceSub, Int.reduceMul, Int.reduceNeg, Int.reduceEq, Int.reduceBEq, Int.reduceBNe, ↓reduceIte, reduceCtorEq, String.reduceBNe, String.reduceEq, reduceDIte, Nat.reducePow, zN, z0, z2, z9, u3, hc0, u4, x1, x2, x3, x4, x5]
      refine Thn_n ?_
      refine hK _ _ ?_
      clear hK K
      refine AW.cond rfl (fun h59 => ?_) (fun h59 => ?_)
      · have hlt : i2 < d := by have := of_decide_eq_true h59; omega
        obtain ⟨e, he⟩ : ∃ e, e = (atB t i2).toNat := ⟨_, rfl⟩
        have y1 : (0 : Int) ≤ (i2 : Int) := by omega
        have y2 : ((i2 : Int)).toNat = i2 := Int.toNat_natCast _
        have y3 : t[i2]? = some (atB t i2) := atB_get (by omega)
        have y4 : (atB t i2).toNat = e := he.symm
        have y5 : IntKind.i64.wrap ((i2 : Int) + 1) = (i2 : Int) + 1 := wi (by omega)
        have hcs : e < 48 ∨ 57 < e ∨ (48 ≤ e ∧ e ≤ 57) := by omega
        rcases hcs with hc | hc | hc
        · have y6 : decide ((e : Int) < 48) = true := decide_eq_true (by omega)
          have y7 : decide ((57 : Int) < (e : Int)) = false := decide_eq_false (by omega)
          refine AW.skip ?_
          refine Thn_n ?_
          refine hK _ _ ?_
          clear hK K
          refine AW.seq_k fun K hK => ?_
          refine AW.block ?_
          refine AW.seq_k fun K hK => ?_
          refine AW.seq_k fun K hK => ?_
          refine AW.region (by decide) ?_
          simp only [push_cast, Nat.reduceAdd, Nat.reduceMul, Nat.reduceSub, Nat.reduceLeDiff, Nat.reduceLT, Nat.reduceEqDiff, Nat.reduceBEq, Nat.reduceBNe, Nat.reduceMod, Nat.reduceDiv, Int.reduceLE, Int.reduceLT, Int.reduceToNat, Int.reduceAdd, Int.reduceSub, Int.reduceMul, Int.reduceNeg, Int.reduceEq, Int.reduceBEq, Int.reduceBNe, ↓reduceIte, reduceCtorEq, String.reduceBNe, String.reduceEq, reduceDIte, Nat.reducePow, zN, z0, z2, z9, u3, hc0, u4, x1, x2, x3, x4, x5, y1, y2, y3, y4, y5, y6, y7]
          refine Thn_n ?_
          refine hK _ _ ?_
          clear hK K
          refine AW.cond_t rfl ?_
          refine AW.seq_k fun K hK => ?_
          refine AW.region (by decide) ?_
          simp only [push_cast, Nat.reduceAdd, Nat.reduceMul, Nat.reduceSub, Nat.reduceLeDiff, Nat.reduceLT, Nat.reduceEqDiff, Nat.reduceBEq, Nat.reduceBNe, Nat.reduceMod, Nat.reduceDiv, Int.reduceLE, Int.reduceLT, Int.reduceToNat, Int.reduceAdd, Int.reduceSub, Int.reduceMul, Int.reduceNeg, Int.reduceEq, Int.reduceBEq, Int.reduceBNe, ↓reduceIte, reduceCtorEq, String.reduceBNe, String.reduceEq, reduceDIte, Nat.reducePow, zN, z0, z2, z9, u3, hc0, u4, x1, x2, x3, x4, x5, y1, y2, y3, y4, y5, y6, y7]
          refine Thn_n ?_
          refine hK _ _ ?_
          clear hK K
          refine AW.ret ?_
          refine Thn_r ?_
          refine InB_r ?_
          refine Thn_r ?_
          refine Thn_r ?_
          refine InB_r ?_
          refine Thn_r ?_
          refine hQ _ _ _ ?_
          first | refine RetP.drop0 (Or.inr rfl) ?_ ?_ hwf | refine RetP.drop (Or.inr rfl) ?_ ?_ hwf
          · simp only [resA, resOne, resTv, AV.tv, push_cast, Nat.reduceAdd, Nat.reduceMul, Nat.reduceSub, Nat.reduceLeDiff, Nat.reduceLT, Nat.reduceEqDiff, Nat.reduceBEq, Nat.reduceBNe, Nat.reduceMod, Nat.reduceDiv, Int.reduceLE, Int.reduceLT, Int.reduceToNat, Int.reduceAdd, Int.reduceSub, Int.reduceMul, Int.reduceNeg, Int.reduceEq, Int.reduceBEq, Int.reduceBNe, ↓reduceIte, reduceCtorEq, String.reduceBNe, String.reduceEq, reduceDIte, Nat.reducePow, zN, z0, z2, z9, u3, hc0, u4, x1, x2, x3, x4, x5, y1, y2, y3, y4, y5, y6, y7]
          · rfl
        · have y6 : decide ((e : Int) < 48) = false := decide_eq_false (by omega)
          have y7 : decide ((57 : Int) < (e : Int)) = true := decide_eq_true (by omega)
          refine AW.skip ?_
          refine Thn_n ?_
          refine hK _ _ ?_
          clear hK K
          refine AW.seq_k fun K hK => ?_
          refine AW.block ?_
          refine AW.seq_k fun K hK => ?_
          refine AW.seq_k fun K hK => ?_
          refine AW.region (by decide) ?_
          simp only [push_cast, Nat.reduceAdd, Nat.reduceMul, Nat.reduceSub, Nat.reduceLeDiff, Nat.reduceLT, Nat.reduceEqDiff, Nat.reduceBEq, Nat.reduceBNe, Nat.reduceMod, Nat.reduceDiv, Int.reduceLE, Int.reduceLT, Int.reduceToNat, Int.reduceAdd, Int.reduceSub, Int.reduceMul, Int.reduceNeg, Int.reduceEq, Int.reduceBEq, Int.reduceBNe, ↓reduceIte, reduceCtorEq, String.reduceBNe, String.reduceEq, reduceDIte, Nat.reducePow, zN, z0, z2, z9, u3, hc0, u4, x1, x2, x3, x4, x5, y1, y2, y3, y4, y5, y6, y7]
          refine Thn_n ?_
          refine hK _ _ ?_
          clear hK K
          refine AW.cond_t rfl ?_
          refine AW.seq_k fun K hK => ?_
          refine AW.region (by decide) ?_
          simp only [push_cast, Nat.reduceAdd, Nat.reduceMul, Nat.reduceSub, Nat.reduceLeDiff, Nat.reduceLT, Nat.reduceEqDiff, Nat.reduceBEq, Nat.reduceBNe, Nat.reduceMod, Nat.reduceDiv, Int.reduceLE, Int.reduceLT, Int.reduceToNat, Int.reduceAdd, Int.reduceSub, Int.reduceMul, Int.reduceNeg, Int.reduceEq, Int.reduceBEq, Int.reduceBNe, ↓reduceIte, reduceCtorEq, String.reduceBNe, String.reduceEq, reduceDIte, Nat.reducePow, zN, z0, z2, z9, u3, hc0, u4, x1, x2, x3, x4, x5, y1, y2, y3, y4, y5, y6, y7]
          refine Thn_n ?_
          refine hK _ _ ?_
          clear hK K
          refine AW.ret ?_
          refine Thn_r ?_
          refine InB_r ?_
          refine Thn_r ?_
          refine Thn_r ?_
          refine InB_r ?_
          refine Thn_r ?_
          refine hQ _ _ _ ?_
          first | refine RetP.drop0 (Or.inr rfl) ?_ ?_ hwf | refine RetP.drop (Or.inr rfl) ?_ ?_ hwf
          · simp only [resA, resOne, resTv, AV.tv, push_cast, Nat.reduceAdd, Nat.reduceMul, Nat.reduceSub, Nat.reduceLeDiff, Nat.reduceLT, Nat.reduceEqDiff, Nat.reduceBEq, Nat.reduceBNe, Nat.reduceMod, Nat.reduceDiv, Int.reduceLE, Int.reduceLT, Int.reduceToNat, Int.reduceAdd, Int.reduceSub, Int.reduceMul, Int.reduceNeg, Int.reduceEq, Int.reduceBEq, Int.reduceBNe, ↓reduceIte, reduceCtorEq, String.reduceBNe, String.reduceEq, reduceDIte, Nat.reducePow, zN, z0, z2, z9, u3, hc0, u4, x1, x2, x3, x4, x5, y1, y2, y3, y4, y5, y6, y7]
          · rfl
        · have y6 : decide ((e : Int) < 48) = false := decide_eq_false (by omega)
          have y7 : decide ((57 : Int) < (e : Int)) = false := decide_eq_false (by omega)
          refine AW.skip ?_
          refine Thn_n ?_
          refine hK _ _ ?_
          clear hK K
          refine AW.seq_k fun K hK => ?_
          refine AW.block ?_
          refine AW.seq_k fun K hK => ?_
          refine AW.seq_k fun K hK => ?_
          refine AW.region (by decide) ?_
          simp only [push_cast, Nat.reduceAdd, Nat.reduceMul, Nat.reduceSub, Nat.reduceLeDiff, Nat.reduceLT, Nat.reduceEqDiff, Nat.reduceBEq, Nat.reduceBNe, Nat.reduceMod, Nat.reduceDiv, Int.reduceLE, Int.reduceLT, Int.reduceToNat, Int.reduceAdd, Int.reduceSub, Int.reduceMul, Int.reduceNeg, Int.reduceEq, Int.reduceBEq, Int.reduceBNe, ↓reduceIte, reduceCtorEq, String.reduceBNe, String.reduceEq, reduceDIte, Nat.reducePow, zN, z0, z2, z9, u3, hc0, u4, x1, x2, x3, x4, x5, y1, y2, y3, y4, y5, y6, y7]
          refine Thn_n ?_
          refine hK _ _ ?_
          clear hK K
          refine AW.cond_f rfl ?_
          refine AW.skip ?_
          refine Thn_n ?_
          refine hK _ _ ?_
          clear hK K
          refine AW.region (by decide) ?_
          simp only [push_cast, Nat.reduceAdd, Nat.reduceMul, Nat.reduceSub, Nat.reduceLeDiff, Nat.reduceLT, Nat.reduceEqDiff, Nat.reduceBEq, Nat.reduceBNe, Nat.reduceMod, Nat.reduceDiv, Int.reduceLE, Int.reduceLT, Int.reduceToNat, Int.reduceAdd, Int.reduceSub, Int.reduceMul, Int.reduceNeg, Int.reduceEq, Int.reduceBEq, Int.reduceBNe, ↓reduceIte, reduceCtorEq, String.reduceBNe, String.reduceEq, reduceDIte, Nat.reducePow, zN, z0, z2, z9, u3, hc0, u4, x1, x2, x3, x4, x5, y1, y2, y3, y4, y5, y6, y7]
          refine InB_n ?_
          refine Thn_n ?_
          refine hK _ _ ?_
          clear hK K
          refine AW.region (by decide) ?_
          simp only [push_cast, Nat.reduceAdd, Nat.reduceMul, Nat.reduceSub, Nat.reduceLeDiff, Nat.reduceLT, Nat.reduceEqDiff, Nat.reduceBEq, Nat.reduceBNe, Nat.reduceMod, Nat.reduceDiv, Int.reduceLE, Int.reduceLT, Int.reduceToNat, Int.reduceAdd, Int.reduceSub, Int.reduceMul, Int.reduceNeg, Int.reduceEq, Int.reduceBEq, Int.reduceBNe, ↓reduceIte, reduceCtorEq, String.reduceBNe, String.reduceEq, reduceDIte, Nat.reducePow, zN, z0, z2, z9, u3, hc0, u4, x1, x2, x3, x4, x5, y1, y2, y3, y4, y5, y6, y7]
          refine Thn_n ?_
          refine ⟨(i2 + 1, IntKind.i64.wrap (IntKind.i64.wrap (n2 * 10) + IntKind.i64.wrap (IntKind.u8.wrap ((e : Int) - 48)))), (by show 0 ≤ i2 + 1 ∧ i2 + 1 ≤ d; omega), (by show d - (i2 + 1) < d - i2; omega), ?_⟩
          try simp only [keepL, setAll, push_cast, Nat.reduceAdd, Nat.reduceMul, Nat.reduceSub, Nat.reduceLeDiff, Nat.reduceLT, Nat.reduceEqDiff, Nat.reduceBEq, Nat.reduceBNe, Nat.reduceMod, Nat.reduceDiv, Int.reduceLE, Int.reduceLT, Int.reduceToNat, Int.reduceAdd, Int.reduceSub, Int.reduceMul, Int.reduceNeg, Int.reduceEq, Int.reduceBEq, Int.reduceBNe, ↓reduceIte, reduceCtorEq, String.reduceBNe, String.reduceEq, reduceDIte, Nat.reducePow, zN, z0, z2, z9, u3, hc0, u4, x1, x2, x3, x4, x5, y1, y2, y3, y4, y5, y6, y7]
          exact Weak.same (by simp only [Keeps, Tm.get_cons, Nat.reduceEqDiff, ↓reduceIte, if_true, if_false, ite_true, ite_false, true_and, and_true, and_self, reduceCtorEq]) (by first | rfl | simp only [Keeps, Tm.get_cons, Nat.reduceEqDiff, ↓reduceIte, if_true, if_false, ite_true, ite_false, true_and, and_true, and_self, reduceCtorEq])
      · refine AW.exit ?_
        refine Thn_e ?_
        clear hK K
        refine Thn_e ?_
        refine InB_here ?_
        refine Thn_n ?_
        refine hK _ _ ?_
        clear hK K
        refine AW.seq_k fun K hK => ?_
        refine AW.region (by decide) ?_
        simp only [push_cast, Nat.reduceAdd, Nat.reduceMul, Nat.reduceSub, Nat.reduceLeDiff, Nat.reduceLT, Nat.reduceEqDiff, Nat.reduceBEq, Nat.reduceBNe, Nat.reduceMod, Nat.reduceDiv, Int.reduceLE, Int.reduceLT, Int.reduceToNat, Int.reduceAdd, Int.reduceSub, Int.reduceMul, Int.reduceNeg, Int.reduceEq, Int.reduceBEq, Int.reduceBNe, ↓reduceIte, reduceCtorEq, String.reduceBNe, String.reduceEq, reduceDIte, Nat.reducePow, zN, z0, z2, z9, u3, hc0, u4, x1, x2, x3, x4, x5]
        refine Thn_n ?_
        refine hK _ _ ?_
        clear hK K
        refine AW.seq_k fun K hK => ?_
        refine AW.seq_k fun K hK => ?_
        refine AW.region (by decide) ?_
        simp only [push_cast, Nat.reduceAdd, Nat.reduceMul, Nat.reduceSub, Nat.reduceLeDiff, Nat.reduceLT, Nat.reduceEqDiff, Nat.reduceBEq, Nat.reduceBNe, Nat.reduceMod, Nat.reduceDiv, Int.reduceLE, Int.reduceLT, Int.reduceToNat, Int.reduceAdd, Int.reduceSub, Int.reduceMul, Int.reduceNeg, Int.reduceEq, Int.reduceBEq, Int.reduceBNe, ↓reduceIte, reduceCtorEq, String.reduceBNe, String.reduceEq, reduceDIte, Nat.reducePow, zN, z0, z2, z9, u3, hc0, u4, x1, x2, x3, x4, x5]
        refine Thn_n ?_
        refine hK _ _ ?_
        clear hK K
        refine AW.block ?_
        refine AW.loopK [0, 4, 5, 7] (fun z => z.1 ≤ N) (fun z => [(9, .one (.int .i64 z.2)), (10, .one (.int .i64 ((z.1 : Int) - 1)))]) (fun z => []) (fun z => z.1) (N, 0) (Nat.le_refl _) ?_ ?_ fun z hi48 => ?_
        · first | rfl | (simp only [Keeps, Tm.get_cons, Nat.reduceEqDiff, ↓reduceIte, if_true, if_false, ite_true, ite_false, true_and, and_true, and_self, reduceCtorEq] <;> rfl)
        · first | rfl | (simp only [setAll, push_cast, Nat.reduceAdd, Nat.reduceMul, Nat.reduceSub, Nat.reduceLeDiff, Nat.reduceLT, Nat.reduceEqDiff, Nat.reduceBEq, Nat.reduceBNe, Nat.reduceMod, Nat.reduceDiv, Int.reduceLE, Int.reduceLT, Int.reduceToNat, Int.reduceAdd, Int.reduceSub, Int.reduceMul, Int.reduceNeg, Int.reduceEq, Int.reduceBEq, Int.reduceBNe, ↓reduceIte, reduceCtorEq, String.reduceBNe, String.reduceEq, reduceDIte, Nat.reducePow, zN, z0, z2, z9, u3, hc0, u4, x1, x2, x3, x4, x5] <;> rfl)
        obtain ⟨k, x⟩ := z
        have hkN : k ≤ N := hi48
        try simp only [keepL, setAll, push_cast, Nat.reduceAdd, Nat.reduceMul, Nat.reduceSub, Nat.reduceLeDiff, Nat.reduceLT, Nat.reduceEqDiff, Nat.reduceBEq, Nat.reduceBNe, Nat.reduceMod, Nat.reduceDiv, Int.reduceLE, Int.reduceLT, Int.reduceToNat, Int.reduceAdd, Int.reduceSub, Int.reduceMul, Int.reduceNeg, Int.reduceEq, Int.reduceBEq, Int.reduceBNe, ↓reduceIte, reduceCtorEq, String.reduceBNe, String.reduceEq, reduceDIte, Nat.reducePow, zN, z0, z2, z9, u3, hc0, u4, x1, x2, x3, x4, x5]
        refine AW.seq_k fun K hK => ?_
        refine AW.seq_k fun K hK => ?_
        refine AW.region (by decide) ?_
        simp only [push_cast, Nat.reduceAdd, Nat.reduceMul, Nat.reduceSub, Nat.reduceLeDiff, Nat.reduceLT, Nat.reduceEqDiff, Nat.reduceBEq, Nat.reduceBNe, Nat.reduceMod, Nat.reduceDiv, Int.reduceLE, Int.reduceLT, Int.reduceToNat, Int.reduceAdd, Int.reduceSub, Int.reduceMul, Int.reduceNeg, Int.reduceEq, Int.reduceBEq, Int.reduceBNe, ↓reduceIte, reduceCtorEq, String.reduceBNe, String.reduceEq, reduceDIte, Nat.reducePow, zN, z0, z2, z9, u3, hc0, u4, x1, x2, x3, x4, x5]
        refine Thn_n ?_
        refine hK _ _ ?_
        clear hK K
        refine AW.cond rfl (fun h85 => ?_) (fun h85 => ?_)
        · obtain ⟨j, hj⟩ : ∃ j, k = j + 1 := ⟨k - 1, by have := of_decide_eq_true h85; omega⟩
          subst hj
          have y0 : (j : Int) + 1 - 1 = (j : Int) := by omega
          obtain ⟨e, he⟩ : ∃ e, e = (atB t j).toNat := ⟨_, rfl⟩
          have y1 : (0 : Int) ≤ (j : Int) := by omega
          have y2 : ((j : Int)).toNat = j := Int.toNat_natCast _
          have y3 : t[j]? = some (atB t j) := atB_get (by omega)
          have y4 : (atB t j).toNat = e := he.symm
          have ye : IntKind.i64.wrap ((j : Int) - 1) = (j : Int) - 1 := wi (by omega)
          have hcs : e < 48 ∨ 57 < e ∨ (48 ≤ e ∧ e ≤ 57) := by omega
          rcases hcs with hc | hc | hc
          · have y6 : decide ((e : Int) < 48) = true := decide_eq_true (by omega)
            have y7 : decide ((57 : Int) < (e : Int)) = false := decide_eq_false (by omega)
            refine AW.skip ?_
            refine Thn_n ?_
            refine hK _ _ ?_
            clear hK K
            refine AW.seq_k fun K hK => ?_
            refine AW.block ?_
            refine AW.seq_k fun K hK => ?_
            refine AW.seq_k fun K hK => ?_
            refine AW.region (by decide) ?_
            simp only [push_cast, Nat.reduceAdd, Nat.reduceMul, Nat.reduceSub, Nat.reduceLeDiff, Nat.reduceLT, Nat.reduceEqDiff, Nat.reduceBEq, Nat.reduceBNe, Nat.reduceMod, Nat.reduceDiv, Int.reduceLE, Int.reduceLT, Int.reduceToNat, Int.reduceAdd, Int.reduceSub, Int.reduceMul, Int.reduceNeg, Int.reduceEq, Int.reduceBEq, Int.reduceBNe, ↓reduceIte, reduceCtorEq, String.reduceBNe, String.reduceEq, reduceDIte, Nat.reducePow, zN, z0, z2, z9, u3, hc0, u4, x1, x2, x3, x4, x5, y0, y1, y2, y3, y4, ye, y6, y7]
            refine Thn_n ?_
            refine hK _ _ ?_
            clear hK K
            refine AW.cond_t rfl ?_
            refine AW.seq_k fun K hK => ?_
            refine AW.region (by decide) ?_
            simp only [push_cast, Nat.reduceAdd, Nat.reduceMul, Nat.reduceSub, Nat.reduceLeDiff, Nat.reduceLT, Nat.reduceEqDiff, Nat.reduceBEq, Nat.reduceBNe, Nat.reduceMod, Nat.reduceDiv, Int.reduceLE, Int.reduceLT, Int.reduceToNat, Int.reduceAdd, Int.reduceSub, Int.reduceMul, Int.reduceNeg, Int.reduceEq, Int.reduceBEq, Int.reduceBNe, ↓reduceIte, reduceCtorEq, String.reduceBNe, String.reduceEq, reduceDIte, Nat.reducePow, zN, z0, z2, z9, u3, hc0, u4, x1, x2, x3, x4, x5, y0, y1, y2, y3, y4, ye, y6, y7]
            refine Thn_n ?_
            refine hK _ _ ?_
            clear hK K
            refine AW.ret ?_
            refine Thn_r ?_
            refine InB_r ?_
            refine Thn_r ?_
            refine Thn_r ?_
            refine InB_r ?_
            refine Thn_r ?_
            refine hQ _ _ _ ?_
            first | refine RetP.drop0 (Or.inr rfl) ?_ ?_ hwf | refine RetP.drop (Or.inr rfl) ?_ ?_ hwf
            · simp only [resA, resOne, resTv, AV.tv, push_cast, Nat.reduceAdd, Nat.reduceMul, Nat.reduceSub, Nat.reduceLeDiff, Nat.reduceLT, Nat.reduceEqDiff, Nat.reduceBEq, Nat.reduceBNe, Nat.reduceMod, Nat.reduceDiv, Int.reduceLE, Int.reduceLT, Int.reduceToNat, Int.reduceAdd, Int.reduceSub, Int.reduceMul, Int.reduceNeg, Int.reduceEq, Int.reduceBEq, Int.reduceBNe, ↓reduceIte, reduceCtorEq, String.reduceBNe, String.reduceEq, reduceDIte, Nat.reducePow, zN, z0, z2, z9, u3, hc0, u4, x1, x2, x3, x4, x5, y0, y1, y2, y3, y4, ye, y6, y7]
            · rfl
          · have y6 : decide ((e : Int) < 48) = false := decide_eq_false (by omega)
            have y7 : decide ((57 : Int) < (e : Int)) = true := decide_eq_true (by omega)
            refine AW.skip ?_
            refine Thn_n ?_
            refine hK _ _ ?_
            clear hK K
            refine AW.seq_k fun K hK => ?_
            refine AW.block ?_
            refine AW.seq_k fun K hK => ?_
            refine AW.seq_k fun K hK => ?_
            refine AW.region (by decide) ?_
            simp only [push_cast, Nat.reduceAdd, Nat.reduceMul, Nat.reduceSub, Nat.reduceLeDiff, Nat.reduceLT, Nat.reduceEqDiff, Nat.reduceBEq, Nat.reduceBNe, Nat.reduceMod, Nat.reduceDiv, Int.reduceLE, Int.reduceLT, Int.reduceToNat, Int.reduceAdd, Int.reduceSub, Int.reduceMul, Int.reduceNeg, Int.reduceEq, Int.reduceBEq, Int.reduceBNe, ↓reduceIte, reduceCtorEq, String.reduceBNe, String.reduceEq, reduceDIte, Nat.reducePow, zN, z0, z2, z9, u3, hc0, u4, x1, x2, x3, x4, x5, y0, y1, y2, y3, y4, ye, y6, y7]
            refine Thn_n ?_
            refine hK _ _ ?_
            clear hK K
            refine AW.cond_t rfl ?_
            refine AW.seq_k fun K hK => ?_
            refine AW.region (by decide) ?_
            simp only [push_cast, Nat.reduceAdd, Nat.reduceMul, Nat.reduceSub, Nat.reduceLeDiff, Nat.reduceLT, Nat.reduceEqDiff, Nat.reduceBEq, Nat.reduceBNe, Nat.reduceMod, Nat.reduceDiv, Int.reduceLE, Int.reduceLT, Int.reduceToNat, Int.reduceAdd, Int.reduceSub, Int.reduceMul, Int.reduceNeg, Int.reduceEq, Int.reduceBEq, Int.reduceBNe, ↓reduceIte, reduceCtorEq, String.reduceBNe, String.reduceEq, reduceDIte, Nat.reducePow, zN, z0, z2, z9, u3, hc0, u4, x1, x2, x3, x4, x5, y0, y1, y2, y3, y4, ye, y6, y7]
            refine Thn_n ?_
            refine hK _ _ ?_
            clear hK K
            refine AW.ret ?_
            refine Thn_r ?_
            refine InB_r ?_
            refine Thn_r ?_
            refine Thn_r ?_
            refine InB_r ?_
            refine Thn_r ?_
            refine hQ _ _ _ ?_
            first | refine RetP.drop0 (Or.inr rfl) ?_ ?_ hwf | refine RetP.drop (Or.inr rfl) ?_ ?_ hwf
            · simp only [resA, resOne, resTv, AV.tv, push_cast, Nat.reduceAdd, Nat.reduceMul, Nat.reduceSub, Nat.reduceLeDiff, Nat.reduceLT, Nat.reduceEqDiff, Nat.reduceBEq, Nat.reduceBNe, Nat.reduceMod, Nat.reduceDiv, Int.reduceLE, Int.reduceLT, Int.reduceToNat, Int.reduceAdd, Int.reduceSub, Int.reduceMul, Int.reduceNeg, Int.reduceEq, Int.reduceBEq, Int.reduceBNe, ↓reduceIte, reduceCtorEq, String.reduceBNe, String.reduceEq, reduceDIte, Nat.reducePow, zN, z0, z2, z9, u3, hc0, u4, x1, x2, x3, x4, x5, y0, y1, y2, y3, y4, ye, y6, y7]
            · rfl
          · have y6 : decide ((e : Int) < 48) = false := decide_eq_false (by omega)
            have y7 : decide ((57 : Int) < (e : Int)) = false := decide_eq_false (by omega)
            refine AW.skip ?_
            refine Thn_n ?_
            refine hK _ _ ?_
            clear hK K
            refine AW.seq_k fun K hK => ?_
            refine AW.block ?_
            refine AW.seq_k fun K hK => ?_
            refine AW.seq_k fun K hK => ?_
            refine AW.region (by decide) ?_
            simp only [push_cast, Nat.reduceAdd, Nat.reduceMul, Nat.reduceSub, Nat.reduceLeDiff, Nat.reduceLT, Nat.reduceEqDiff, Nat.reduceBEq, Nat.reduceBNe, Nat.reduceMod, Nat.reduceDiv, Int.reduceLE, Int.reduceLT, Int.reduceToNat, Int.reduceAdd, Int.reduceSub, Int.reduceMul, Int.reduceNeg, Int.reduceEq, Int.reduceBEq, Int.reduceBNe, ↓reduceIte, reduceCtorEq, String.reduceBNe, String.reduceEq, reduceDIte, Nat.reducePow, zN, z0, z2, z9, u3, hc0, u4, x1, x2, x3, x4, x5, y0, y1, y2, y3, y4, ye, y6, y7]
            refine Thn_n ?_
            refine hK _ _ ?_
            clear hK K
            refine AW.cond_f rfl ?_
            refine AW.skip ?_
            refine Thn_n ?_
            refine hK _ _ ?_
            clear hK K
            refine AW.region (by decide) ?_
            simp only [push_cast, Nat.reduceAdd, Nat.reduceMul, Nat.reduceSub, Nat.reduceLeDiff, Nat.reduceLT, Nat.reduceEqDiff, Nat.reduceBEq, Nat.reduceBNe, Nat.reduceMod, Nat.reduceDiv, Int.reduceLE, Int.reduceLT, Int.reduceToNat, Int.reduceAdd, Int.reduceSub, Int.reduceMul, Int.reduceNeg, Int.reduceEq, Int.reduceBEq, Int.reduceBNe, ↓reduceIte, reduceCtorEq, String.reduceBNe, String.reduceEq, reduceDIte, Nat.reducePow, zN, z0, z2, z9, u3, hc0, u4, x1, x2, x3, x4, x5, y0, y1, y2, y3, y4, ye, y6, y7]
            refine InB_n ?_
            refine Thn_n ?_
            refine hK _ _ ?_
            clear hK K
            refine AW.region (by decide) ?_
            simp only [push_cast, Nat.reduceAdd, Nat.reduceMul, Nat.reduceSub, Nat.reduceLeDiff, Nat.reduceLT, Nat.reduceEqDiff, Nat.reduceBEq, Nat.reduceBNe, Nat.reduceMod, Nat.reduceDiv, Int.reduceLE, Int.reduceLT, Int.reduceToNat, Int.reduceAdd, Int.reduceSub, Int.reduceMul, Int.reduceNeg, Int.reduceEq, Int.reduceBEq, Int.reduceBNe, ↓reduceIte, reduceCtorEq, String.reduceBNe, String.reduceEq, reduceDIte, Nat.reducePow, zN, z0, z2, z9, u3, hc0, u4, x1, x2, x3, x4, x5, y0, y1, y2, y3, y4, ye, y6, y7]
            refine Thn_n ?_
            refine ⟨(j, IntKind.i64.wrap ((IntKind.i64.wrap (x + IntKind.i64.wrap (IntKind.i64.wrap (IntKind.u8.wrap ((e : Int) - 48)) * 65536))).tdiv 10)), (by show j ≤ N; omega), (by show j < j + 1; omega), ?_⟩
            try simp only [keepL, setAll, push_cast, Nat.reduceAdd, Nat.reduceMul, Nat.reduceSub, Nat.reduceLeDiff, Nat.reduceLT, Nat.reduceEqDiff, Nat.reduceBEq, Nat.reduceBNe, Nat.reduceMod, Nat.reduceDiv, Int.reduceLE, Int.reduceLT, Int.reduceToNat, Int.reduceAdd, Int.reduceSub, Int.reduceMul, Int.reduceNeg, Int.reduceEq, Int.reduceBEq, Int.reduceBNe, ↓reduceIte, reduceCtorEq, String.reduceBNe, String.reduceEq, reduceDIte, Nat.reducePow, zN, z0, z2, z9, u3, hc0, u4, x1, x2, x3, x4, x5, y0, y1, y2, y3, y4, ye, y6, y7]
            exact Weak.same (by simp only [Keeps, Tm.get_cons, Nat.reduceEqDiff, ↓reduceIte, if_true, if_false, ite_true, ite_false, true_and, and_true, and_self, reduceCtorEq]) (by first | rfl | simp only [Keeps, Tm.get_cons, Nat.reduceEqDiff, ↓reduceIte, if_true, if_false, ite_true, ite_false, true_and, and_true, and_self, reduceCtorEq])
        · obtain ⟨A1, hA1⟩ : ∃ A1, A1 = IntKind.i64.wrap (IntKind.i64.wrap (n2 * 65536) + x) := ⟨_, rfl⟩
          obtain ⟨A, hA⟩ : ∃ A, A = A1 := ⟨_, rfl⟩
          have hcs : 2147483648 < A ∨ A < -2147483648 ∨ (-2147483648 ≤ A ∧ A ≤ 2147483648) := by omega
          rcases hcs with hc | hc | hc
          · have z7 : decide ((2147483648 : Int) < A) = true := decide_eq_true (by omega)
            have z8 : decide (A < -2147483648) = false := decide_eq_false (by omega)
            refine AW.exit ?_
            refine Thn_e ?_
            clear hK K
            refine Thn_e ?_
            refine InB_here ?_
            refine Thn_n ?_
            refine hK _ _ ?_
            clear hK K
            refine AW.seq_k fun K hK => ?_
            refine AW.region (by decide) ?_
            simp only [push_cast, Nat.reduceAdd, Nat.reduceMul, Nat.reduceSub, Nat.reduceLeDiff, Nat.reduceLT, Nat.reduceEqDiff, Nat.reduceBEq, Nat.reduceBNe, Nat.reduceMod, Nat.reduceDiv, Int.reduceLE, Int.reduceLT, Int.reduceToNat, Int.reduceAdd, Int.reduceSub, Int.reduceMul, Int.reduceNeg, Int.reduceEq, Int.reduceBEq, Int.reduceBNe, ↓reduceIte, reduceCtorEq, String.reduceBNe, String.reduceEq, reduceDIte, Nat.reducePow, zN, z0, z2, z9, u3, hc0, u4, x1, x2, x3, x4, x5, ← hA1, ← hA, z7, z8]
            refine Thn_n ?_
            refine hK _ _ ?_
            clear hK K
            refine AW.seq_k fun K hK => ?_
            refine AW.seq_k fun K hK => ?_
            refine AW.region (by decide) ?_
            simp only [push_cast, Nat.reduceAdd, Nat.reduceMul, Nat.reduceSub, Nat.reduceLeDiff, Nat.reduceLT, Nat.reduceEqDiff, Nat.reduceBEq, Nat.reduceBNe, Nat.reduceMod, Nat.reduceDiv, Int.reduceLE, Int.reduceLT, Int.reduceToNat, Int.reduceAdd, Int.reduceSub, Int.reduceMul, Int.reduceNeg, Int.reduceEq, Int.reduceBEq, Int.reduceBNe, ↓reduceIte, reduceCtorEq, String.reduceBNe, String.reduceEq, reduceDIte, Nat.reducePow, zN, z0, z2, z9, u3, hc0, u4, x1, x2, x3, x4, x5, ← hA1, ← hA, z7, z8]
            refine Thn_n ?_
            refine hK _ _ ?_
            clear hK K
            refine AW.cond_f rfl ?_
            refine AW.skip ?_
            refine Thn_n ?_
            refine hK _ _ ?_
            clear hK K
            refine AW.seq_k fun K hK => ?_
            refine AW.seq_k fun K hK => ?_
            refine AW.region (by decide) ?_
            simp only [push_cast, Nat.reduceAdd, Nat.reduceMul, Nat.reduceSub, Nat.reduceLeDiff, Nat.reduceLT, Nat.reduceEqDiff, Nat.reduceBEq, Nat.reduceBNe, Nat.reduceMod, Nat.reduceDiv, Int.reduceLE, Int.reduceLT, Int.reduceToNat, Int.reduceAdd, Int.reduceSub, Int.reduceMul, Int.reduceNeg, Int.reduceEq, Int.reduceBEq, Int.reduceBNe, ↓reduceIte, reduceCtorEq, String.reduceBNe, String.reduceEq, reduceDIte, Nat.reducePow, zN, z0, z2, z9, u3, hc0, u4, x1, x2, x3, x4, x5, ← hA1, ← hA, z7, z8]
            refine Thn_n ?_
            refine hK _ _ ?_
            clear hK K
            refine AW.cond_t rfl ?_
            refine AW.seq_k fun K hK => ?_
            refine AW.region (by decide) ?_
            simp only [push_cast, Nat.reduceAdd, Nat.reduceMul, Nat.reduceSub, Nat.reduceLeDiff, Nat.reduceLT, Nat.reduceEqDiff, Nat.reduceBEq, Nat.reduceBNe, Nat.reduceMod, Nat.reduceDiv, Int.reduceLE, Int.reduceLT, Int.reduceToNat, Int.reduceAdd, Int.reduceSub, Int.reduceMul, Int.reduceNeg, Int.reduceEq, Int.reduceBEq, Int.reduceBNe, ↓reduceIte, reduceCtorEq, String.reduceBNe, String.reduceEq, reduceDIte, Nat.reducePow, zN, z0, z2, z9, u3, hc0, u4, x1, x2, x3, x4, x5, ← hA1, ← hA, z7, z8]
            refine Thn_n ?_
            refine hK _ _ ?_
            clear hK K
            refine AW.ret ?_
            refine Thn_r ?_
            refine hQ _ _ _ ?_
            first | refine RetP.drop0 (Or.inr rfl) ?_ ?_ hwf | refine RetP.drop (Or.inr rfl) ?_ ?_ hwf
            · simp only [resA, resOne, resTv, AV.tv, push_cast, Nat.reduceAdd, Nat.reduceMul, Nat.reduceSub, Nat.reduceLeDiff, Nat.reduceLT, Nat.reduceEqDiff, Nat.reduceBEq, Nat.reduceBNe, Nat.reduceMod, Nat.reduceDiv, Int.reduceLE, Int.reduceLT, Int.reduceToNat, Int.reduceAdd, Int.reduceSub, Int.reduceMul, Int.reduceNeg, Int.reduceEq, Int.reduceBEq, Int.reduceBNe, ↓reduceIte, reduceCtorEq, String.reduceBNe, String.reduceEq, reduceDIte, Nat.reducePow, zN, z0, z2, z9, u3, hc0, u4, x1, x2, x3, x4, x5, ← hA1, ← hA, z7, z8]
            · rfl
          · have z7 : decide ((2147483648 : Int) < A) = false := decide_eq_false (by omega)
            have z8 : decide (A < -2147483648) = true := decide_eq_true (by omega)
            refine AW.exit ?_
            refine Thn_e ?_
            clear hK K
            refine Thn_e ?_
            refine InB_here ?_
            refine Thn_n ?_
            refine hK _ _ ?_
            clear hK K
            refine AW.seq_k fun K hK => ?_
            refine AW.region (by decide) ?_
            simp only [push_cast, Nat.reduceAdd, Nat.reduceMul, Nat.reduceSub, Nat.reduceLeDiff, Nat.reduceLT, Nat.reduceEqDiff, Nat.reduceBEq, Nat.reduceBNe, Nat.reduceMod, Nat.reduceDiv, Int.reduceLE, Int.reduceLT, Int.reduceToNat, Int.reduceAdd, Int.reduceSub, Int.reduceMul, Int.reduceNeg, Int.reduceEq, Int.reduceBEq, Int.reduceBNe, ↓reduceIte, reduceCtorEq, String.reduceBNe, String.reduceEq, reduceDIte, Nat.reducePow, zN, z0, z2, z9, u3, hc0, u4, x1, x2, x3, x4, x5, ← hA1, ← hA, z7, z8]
            refine Thn_n ?_
            refine hK _ _ ?_
            clear hK K
            refine AW.seq_k fun K hK => ?_
            refine AW.seq_k fun K hK => ?_
            refine AW.region (by decide) ?_
            simp only [push_cast, Nat.reduceAdd, Nat.reduceMul, Nat.reduceSub, Nat.reduceLeDiff, Nat.reduceLT, Nat.reduceEqDiff, Nat.reduceBEq, Nat.reduceBNe, Nat.reduceMod, Nat.reduceDiv, Int.reduceLE, Int.reduceLT, Int.reduceToNat, Int.reduceAdd, Int.reduceSub, Int.reduceMul, Int.reduceNeg, Int.reduceEq, Int.reduceBEq, Int.reduceBNe, ↓reduceIte, reduceCtorEq, String.reduceBNe, String.reduceEq, reduceDIte, Nat.reducePow, zN, z0, z2, z9, u3, hc0, u4, x1, x2, x3, x4, x5, ← hA1, ← hA, z7, z8]
            refine Thn_n ?_
            refine hK _ _ ?_
            clear hK K
            refine AW.cond_f rfl ?_
            refine AW.skip ?_
            refine Thn_n ?_
            refine hK _ _ ?_
            clear hK K
            refine AW.seq_k fun K hK => ?_
            refine AW.seq_k fun K hK => ?_
            refine AW.region (by decide) ?_
            simp only [push_cast, Nat.reduceAdd, Nat.reduceMul, Nat.reduceSub, Nat.reduceLeDiff, Nat.reduceLT, Nat.reduceEqDiff, Nat.reduceBEq, Nat.reduceBNe, Nat.reduceMod, Nat.reduceDiv, Int.reduceLE, Int.reduceLT, Int.reduceToNat, Int.reduceAdd, Int.reduceSub, Int.reduceMul, Int.reduceNeg, Int.reduceEq, Int.reduceBEq, Int.reduceBNe, ↓reduceIte, reduceCtorEq, String.reduceBNe, String.reduceEq, reduceDIte, Nat.reducePow, zN, z0, z2, z9, u3, hc0, u4, x1, x2, x3, x4, x5, ← hA1, ← hA, z7, z8]
            refine Thn_n ?_
            refine hK _ _ ?_
            clear hK K
            refine AW.cond_t rfl ?_
            refine AW.seq_k fun K hK => ?_
            refine AW.region (by decide) ?_
            simp only [push_cast, Nat.reduceAdd, Nat.reduceMul, Nat.reduceSub, Nat.reduceLeDiff, Nat.reduceLT, Nat.reduceEqDiff, Nat.reduceBEq, Nat.reduceBNe, Nat.reduceMod, Nat.reduceDiv, Int.reduceLE, Int.reduceLT, Int.reduceToNat, Int.reduceAdd, Int.reduceSub, Int.reduceMul, Int.reduceNeg, Int.reduceEq, Int.reduceBEq, Int.reduceBNe, ↓reduceIte, reduceCtorEq, String.reduceBNe, String.reduceEq, reduceDIte, Nat.reducePow, zN, z0, z2, z9, u3, hc0, u4, x1, x2, x3, x4, x5, ← hA1, ← hA, z7, z8]
            refine Thn_n ?_
            refine hK _ _ ?_
            clear hK K
            refine AW.ret ?_
            refine Thn_r ?_
            refine hQ _ _ _ ?_
            first | refine RetP.drop0 (Or.inr rfl) ?_ ?_ hwf | refine RetP.drop (Or.inr rfl) ?_ ?_ hwf
            · simp only [resA, resOne, resTv, AV.tv, push_cast, Nat.reduceAdd, Nat.reduceMul, Nat.reduceSub, Nat.reduceLeDiff, Nat.reduceLT, Nat.reduceEqDiff, Nat.reduceBEq, Nat.reduceBNe, Nat.reduceMod, Nat.reduceDiv, Int.reduceLE, Int.reduceLT, Int.reduceToNat, Int.reduceAdd, Int.reduceSub, Int.reduceMul, Int.reduceNeg, Int.reduceEq, Int.reduceBEq, Int.reduceBNe, ↓reduceIte, reduceCtorEq, String.reduceBNe, String.reduceEq, reduceDIte, Nat.reducePow, zN, z0, z2, z9, u3, hc0, u4, x1, x2, x3, x4, x5, ← hA1, ← hA, z7, z8]
            · rfl
          · have z7 : decide ((2147483648 : Int) < A) = false := decide_eq_false (by omega)
            have z8 : decide (A < -2147483648) = false := decide_eq_false (by omega)
            obtain ⟨sT, hne, hcT⟩ := hTx A hc.1 hc.2
            refine AW.exit ?_
            refine Thn_e ?_
            clear hK K
            refine Thn_e ?_
            refine InB_here ?_
            refine Thn_n ?_
            refine hK _ _ ?_
            clear hK K
            refine AW.seq_k fun K hK => ?_
            refine AW.region (by decide) ?_
            simp only [push_cast, Nat.reduceAdd, Nat.reduceMul, Nat.reduceSub, Nat.reduceLeDiff, Nat.reduceLT, Nat.reduceEqDiff, Nat.reduceBEq, Nat.reduceBNe, Nat.reduceMod, Nat.reduceDiv, Int.reduceLE, Int.reduceLT, Int.reduceToNat, Int.reduceAdd, Int.reduceSub, Int.reduceMul, Int.reduceNeg, Int.reduceEq, Int.reduceBEq, Int.reduceBNe, ↓reduceIte, reduceCtorEq, String.reduceBNe, String.reduceEq, reduceDIte, Nat.reducePow, zN, z0, z2, z9, u3, hc0, u4, x1, x2, x3, x4, x5, ← hA1, ← hA, z7, z8, hne]
            refine Thn_n ?_
            refine hK _ _ ?_
            clear hK K
            refine AW.seq_k fun K hK => ?_
            refine AW.seq_k fun K hK => ?_
            refine AW.region (by decide) ?_
            simp only [push_cast, Nat.reduceAdd, Nat.reduceMul, Nat.reduceSub, Nat.reduceLeDiff, Nat.reduceLT, Nat.reduceEqDiff, Nat.reduceBEq, Nat.reduceBNe, Nat.reduceMod, Nat.reduceDiv, Int.reduceLE, Int.reduceLT, Int.reduceToNat, Int.reduceAdd, Int.reduceSub, Int.reduceMul, Int.reduceNeg, Int.reduceEq, Int.reduceBEq, Int.reduceBNe, ↓reduceIte, reduceCtorEq, String.reduceBNe, String.reduceEq, reduceDIte, Nat.reducePow, zN, z0, z2, z9, u3, hc0, u4, x1, x2, x3, x4, x5, ← hA1, ← hA, z7, z8, hne]
            refine Thn_n ?_
            refine hK _ _ ?_
            clear hK K
            refine AW.cond_f rfl ?_
            refine AW.skip ?_
            refine Thn_n ?_
            refine hK _ _ ?_
            clear hK K
            refine AW.seq_k fun K hK => ?_
            refine AW.seq_k fun K hK => ?_
            refine AW.region (by decide) ?_
            simp only [push_cast, Nat.reduceAdd, Nat.reduceMul, Nat.reduceSub, Nat.reduceLeDiff, Nat.reduceLT, Nat.reduceEqDiff, Nat.reduceBEq, Nat.reduceBNe, Nat.reduceMod, Nat.reduceDiv, Int.reduceLE, Int.reduceLT, Int.reduceToNat, Int.reduceAdd, Int.reduceSub, Int.reduceMul, Int.reduceNeg, Int.reduceEq, Int.reduceBEq, Int.reduceBNe, ↓reduceIte, reduceCtorEq, String.reduceBNe, String.reduceEq, reduceDIte, Nat.reducePow, zN, z0, z2, z9, u3, hc0, u4, x1, x2, x3, x4, x5, ← hA1, ← hA, z7, z8, hne]
            refine CThen.by (hcT) ?_
            simp only [push_cast, Nat.reduceAdd, Nat.reduceMul, Nat.reduceSub, Nat.reduceLeDiff, Nat.reduceLT, Nat.reduceEqDiff, Nat.reduceBEq, Nat.reduceBNe, Nat.reduceMod, Nat.reduceDiv, Int.reduceLE, Int.reduceLT, Int.reduceToNat, Int.reduceAdd, Int.reduceSub, Int.reduceMul, Int.reduceNeg, Int.reduceEq, Int.reduceBEq, Int.reduceBNe, ↓reduceIte, reduceCtorEq, String.reduceBNe, String.reduceEq, reduceDIte, Nat.reducePow, zN, z0, z2, z9, u3, hc0, u4, x1, x2, x3, x4, x5, ← hA1, ← hA, z7, z8, hne]
            refine Thn_n ?_
            refine hK _ _ ?_
            clear hK K
            refine AW.cond_t rfl ?_
            refine AW.seq_k fun K hK => ?_
            refine AW.region (by decide) ?_
            simp only [push_cast, Nat.reduceAdd, Nat.reduceMul, Nat.reduceSub, Nat.reduceLeDiff, Nat.reduceLT, Nat.reduceEqDiff, Nat.reduceBEq, Nat.reduceBNe, Nat.reduceMod, Nat.reduceDiv, Int.reduceLE, Int.reduceLT, Int.reduceToNat, Int.reduceAdd, Int.reduceSub, Int.reduceMul, Int.reduceNeg, Int.reduceEq, Int.reduceBEq, Int.reduceBNe, ↓reduceIte, reduceCtorEq, String.reduceBNe, String.reduceEq, reduceDIte, Nat.reducePow, zN, z0, z2, z9, u3, hc0, u4, x1, x2, x3, x4, x5, ← hA1, ← hA, z7, z8, hne]
            refine Thn_n ?_
            refine hK _ _ ?_
            clear hK K
            refine AW.ret ?_
            refine Thn_r ?_
            refine hQ _ _ _ ?_
            first | refine RetP.drop0 (Or.inr rfl) ?_ ?_ hwf | refine RetP.drop (Or.inr rfl) ?_ ?_ hwf
            · simp only [resA, resOne, resTv, AV.tv, push_cast, Nat.reduceAdd, Nat.reduceMul, Nat.reduceSub, Nat.reduceLeDiff, Nat.reduceLT, Nat.reduceEqDiff, Nat.reduceBEq, Nat.reduceBNe, Nat.reduceMod, Nat.reduceDiv, Int.reduceLE, Int.reduceLT, Int.reduceToNat, Int.reduceAdd, Int.reduceSub, Int.reduceMul, Int.reduceNeg, Int.reduceEq, Int.reduceBEq, Int.reduceBNe, ↓reduceIte, reduceCtorEq, String.reduceBNe, String.reduceEq, reduceDIte, Nat.reducePow, zN, z0, z2, z9, u3, hc0, u4, x1, x2, x3, x4, x5, ← hA1, ← hA, z7, z8, hne]
            · rfl
theorem rparse_bn (t : ByteArray) (N : Nat) (m : AMem) (hN : t.size = N) (hN1 : N ≤ 1000) (hTx : ∀ A : Int, -2147483648 ≤ A → A ≤ 2147483648 → ∃ s : ByteArray, (s.toList == t.toList) = false ∧ Ctr Tryd.prog 38 [.one (.int .i64 A)] m (.one (.str s)) m) (h0 : 0 < N) (c0 : Nat) (hc0 : (atB t 0).toNat = c0) (h45 : c0 = 45) : Ctr Tryd.prog 36 [.one (.str t)] m (.tup [(false, [.int .i64 (0)]), (false, [.int .i64 (10)])]) m := by
  refine Ctr.enter Tryd.func36 rfl (by decide) (rs := [.tmp 2, .tmp 3]) (nt := 128) rfl rfl fun hwf Q hQ => ?_
  have zN : (t.size : Int) = (N : Int) := by rw [hN]
  have z0 : decide ((0 : Int) < (N : Int)) = true := decide_eq_true (by omega)
  have z2 : IntKind.i64.wrap ((N : Int) - 1) = (N : Int) - 1 := wi (by omega)
  have z9 : ∀ l : List UInt8, (l == l) = true := fun l => beq_self_eq_true l
  have u3 : t[(0 : Nat)]? = some (atB t 0) := atB_get (by omega)
  have u4 : ((c0 : Int) == 45) = true := by rw [h45]; rfl
  iterate 2
    refine AW.seq_k fun K hK => ?_
    refine AW.region (by decide) ?_
    simp only [push_cast, Nat.reduceAdd, Nat.reduceMul, Nat.reduceSub, Nat.reduceLeDiff, Nat.reduceLT, Nat.reduceEqDiff, Nat.reduceBEq, Nat.reduceBNe, Nat.reduceMod, Nat.reduceDiv, Int.reduceLE, Int.reduceLT, Int.reduceToNat, Int.reduceAdd, Int.reduceSub, Int.reduceMul, Int.reduceNeg, Int.reduceEq, Int.reduceBEq, Int.reduceBNe, ↓reduceIte, reduceCtorEq, String.reduceBNe, String.reduceEq, reduceDIte, Nat.reducePow, zN, z0, z2, z9, u3, hc0, u4]
    refine Thn_n ?_
    refine hK _ _ ?_
    clear hK K
  refine AW.seq_k fun K hK => ?_
  refine AW.seq_k fun K hK => ?_
  refine AW.region (by decide) ?_
  simp only [push_cast, Nat.reduceAdd, Nat.reduceMul, Nat.reduceSub, Nat.reduceLeDiff, Nat.reduceLT, Nat.reduceEqDiff, Nat.reduceBEq, Nat.reduceBNe, Nat.reduceMod, Nat.reduceDiv, Int.reduceLE, Int.reduceLT, Int.reduceToNat, Int.reduceAdd, Int.reduceSub, Int.reduceMul, Int.reduceNeg, Int.reduceEq, Int.reduceBEq, Int.reduceBNe, ↓reduceIte, reduceCtorEq, String.reduceBNe, String.reduceEq, reduceDIte, Nat.reducePow, zN, z0, z2, z9, u3, hc0, u4]
  refine Thn_n ?_
  refine hK _ _ ?_
  clear hK K
  refine AW.cond_t rfl ?_
  iterate 2
    refine AW.region (by decide) ?_
    simp only [push_cast, Nat.reduceAdd, Nat.reduceMul, Nat.reduceSub, Nat.reduceLeDiff, Nat.reduceLT, Nat.reduceEqDiff, Nat.reduceBEq, Nat.reduceBNe, Nat.reduceMod, Nat.reduceDiv, Int.reduceLE, Int.reduceLT, Int.reduceToNat, Int.reduceAdd, Int.reduceSub, Int.reduceMul, Int.reduceNeg, Int.reduceEq, Int.reduceBEq, Int.reduceBNe, ↓reduceIte, reduceCtorEq, String.reduceBNe, String.reduceEq, reduceDIte, Nat.reducePow, zN, z0, z2, z9, u3, hc0, u4]
    refine Thn_n ?_
    refine hK _ _ ?_
    clear hK K
    refine AW.seq_k fun K hK => ?_
  refine AW.seq_k fun K hK => ?_
  refine AW.region (by decide) ?_
  simp only [push_cast, Nat.reduceAdd, Nat.reduceMul, Nat.reduceSub, Nat.reduceLeDiff, Nat.reduceLT, Nat.reduceEqDiff, Nat.reduceBEq, Nat.reduceBNe, Nat.reduceMod, Nat.reduceDiv, Int.reduceLE, Int.reduceLT, Int.reduceToNat, Int.reduceAdd, Int.reduceSub, Int.reduceMul, Int.reduceNeg, Int.reduceEq, Int.reduceBEq, Int.reduceBNe, ↓reduceIte, reduceCtorEq, String.reduceBNe, String.reduceEq, reduceDIte, Nat.reducePow, zN, z0, z2, z9, u3, hc0, u4]
  refine Thn_n ?_
  refine hK _ _ ?_
  clear hK K
  refine AW.block ?_
  refine AW.loopK [0, 4] (fun z => 1 ≤ z.1 ∧ z.1 ≤ N ∧ 1 ≤ z.2 ∧ z.2 ≤ N) (fun z => [(5, .one (.int .i64 (z.2 : Int))), (6, .one (.int .i64 (z.1 : Int)))]) (fun z => []) (fun z => N - z.1) (1, N) (by show 1 ≤ 1 ∧ 1 ≤ N ∧ 1 ≤ N ∧ N ≤ N; omega) ?_ ?_ fun z hi8 => ?_
  · first | rfl | (simp only [Keeps, Tm.get_cons, Nat.reduceEqDiff, ↓reduceIte, if_true, if_false, ite_true, ite_false, true_and, and_true, and_self, reduceCtorEq] <;> rfl)
  · first | rfl | (simp only [setAll, push_cast, Nat.reduceAdd, Nat.reduceMul, Nat.reduceSub, Nat.reduceLeDiff, Nat.reduceLT, Nat.reduceEqDiff, Nat.reduceBEq, Nat.reduceBNe, Nat.reduceMod, Nat.reduceDiv, Int.reduceLE, Int.reduceLT, Int.reduceToNat, Int.reduceAdd, Int.reduceSub, Int.reduceMul, Int.reduceNeg, Int.reduceEq, Int.reduceBEq, Int.reduceBNe, ↓reduceIte, reduceCtorEq, String.reduceBNe, String.reduceEq, reduceDIte, Nat.reducePow, zN, z0, z2, z9, u3, hc0, u4] <;> rfl)
  obtain ⟨i, d⟩ := z
  have hI : 1 ≤ i ∧ i ≤ N ∧ 1 ≤ d ∧ d ≤ N := hi8
  try simp only [keepL, setAll, push_cast, Nat.reduceAdd, Nat.reduceMul, Nat.reduceSub, Nat.reduceLeDiff, Nat.reduceLT, Nat.reduceEqDiff, Nat.reduceBEq, Nat.reduceBNe, Nat.reduceMod, Nat.reduceDiv, Int.reduceLE, Int.reduceLT, Int.reduceToNat, Int.reduceAdd, Int.reduceSub, Int.reduceMul, Int.reduceNeg, Int.reduceEq, Int.reduceBEq, Int.reduceBNe, ↓reduceIte, reduceCtorEq, String.reduceBNe, String.reduceEq, reduceDIte, Nat.reducePow, zN, z0, z2, z9, u3, hc0, u4]
  refine AW.seq_k fun K hK => ?_
  refine AW.seq_k fun K hK => ?_
  refine AW.region (by decide) ?_
  simp only [push_cast, Nat.reduceAdd, Nat.reduceMul, Nat.reduceSub, Nat.reduceLeDiff, Nat.reduceLT, Nat.reduceEqDiff, Nat.reduceBEq, Nat.reduceBNe, Nat.reduceMod, Nat.reduceDiv, Int.reduceLE, Int.reduceLT, Int.reduceToNat, Int.reduceAdd, Int.reduceSub, Int.reduceMul, Int.reduceNeg, Int.reduceEq, Int.reduceBEq, Int.reduceBNe, ↓reduceIte, reduceCtorEq, String.reduceBNe, String.reduceEq, reduceDIte, Nat.reducePow, zN, z0, z2, z9, u3, hc0, u4]
  refine Thn_n ?_
  refine hK _ _ ?_
  clear hK K
  refine AW.cond rfl (fun h26 => ?_) (fun h26 => ?_)
  · have hlt : i < N := by have := of_decide_eq_true h26; omega
    obtain ⟨e, he⟩ : ∃ e, e = (atB t i).toNat := ⟨_, rfl⟩
    have y1 : (0 : Int) ≤ (i : Int) := by omega
    have y2 : ((i : Int)).toNat = i := Int.toNat_natCast _
    have y3 : t[i]? = some (atB t i) := atB_get (by omega)
    have y4 : (atB t i).toNat = e := he.symm
    have y5 : IntKind.i64.wrap ((i : Int) + 1) = (i : Int) + 1 := wi (by omega)
    have hcs : e ≠ 46 ∨ (e = 46 ∧ d = N) ∨ (e = 46 ∧ d ≠ N) := by omega
    rcases hcs with hc | hc | hc
    · have y6 : (((e : Int) : Int) == 46) = false := by exact beq_false_of_ne (by omega)
      refine AW.skip ?_
      refine Thn_n ?_
      refine hK _ _ ?_
      clear hK K
      refine AW.seq_k fun K hK => ?_
      refine AW.block ?_
      refine AW.seq_k fun K hK => ?_
      refine AW.region (by decide) ?_
      simp only [push_cast, Nat.reduceAdd, Nat.reduceMul, Nat.reduceSub, Nat.reduceLeDiff, Nat.reduceLT, Nat.reduceEqDiff, Nat.reduceBEq, Nat.reduceBNe, Nat.reduceMod, Nat.reduceDiv, Int.reduceLE, Int.reduceLT, Int.reduceToNat, Int.reduceAdd, Int.reduceSub, Int.reduceMul, Int.reduceNeg, Int.reduceEq, Int.reduceBEq, Int.reduceBNe, ↓reduceIte, reduceCtorEq, String.reduceBNe, String.reduceEq, reduceDIte, Nat.reducePow, zN, z0, z2, z9, u3, hc0, u4, y1, y2, y3, y4, y5, y6]
      refine Thn_n ?_
      refine hK _ _ ?_
      clear hK K
      refine AW.cond_f rfl ?_
      refine AW.skip ?_
      refine InB_n ?_
      refine Thn_n ?_
      refine hK _ _ ?_
      clear hK K
      refine AW.region (by decide) ?_
      simp only [push_cast, Nat.reduceAdd, Nat.reduceMul, Nat.reduceSub, Nat.reduceLeDiff, Nat.reduceLT, Nat.reduceEqDiff, Nat.reduceBEq, Nat.reduceBNe, Nat.reduceMod, Nat.reduceDiv, Int.reduceLE, Int.reduceLT, Int.reduceToNat, Int.reduceAdd, Int.reduceSub, Int.reduceMul, Int.reduceNeg, Int.reduceEq, Int.reduceBEq, Int.reduceBNe, ↓reduceIte, reduceCtorEq, String.reduceBNe, String.reduceEq, reduceDIte, Nat.reducePow, zN, z0, z2, z9, u3, hc0, u4, y1, y2, y3, y4, y5, y6]
      refine Thn_n ?_
      refine ⟨(i + 1, d), (by show 1 ≤ i + 1 ∧ i + 1 ≤ N ∧ 1 ≤ _ ∧ _ ≤ N; omega), (by show N - (i + 1) < N - i; omega), ?_⟩
      try simp only [keepL, setAll, push_cast, Nat.reduceAdd, Nat.reduceMul, Nat.reduceSub, Nat.reduceLeDiff, Nat.reduceLT, Nat.reduceEqDiff, Nat.reduceBEq, Nat.reduceBNe, Nat.reduceMod, Nat.reduceDiv, Int.reduceLE, Int.reduceLT, Int.reduceToNat, Int.reduceAdd, Int.reduceSub, Int.reduceMul, Int.reduceNeg, Int.reduceEq, Int.reduceBEq, Int.reduceBNe, ↓reduceIte, reduceCtorEq, String.reduceBNe, String.reduceEq, reduceDIte, Nat.reducePow, zN, z0, z2, z9, u3, hc0, u4, y1, y2, y3, y4, y5, y6]
      exact Weak.same (by simp only [Keeps, Tm.get_cons, Nat.reduceEqDiff, ↓reduceIte, if_true, if_false, ite_true, ite_false, true_and, and_true, and_self, reduceCtorEq]) (by first | rfl | simp only [Keeps, Tm.get_cons, Nat.reduceEqDiff, ↓reduceIte, if_true, if_false, ite_true, ite_false, true_and, and_true, and_self, reduceCtorEq])
    · have y6 : (((e : Int) : Int) == 46) = true := by (rw [show ((e : Int) : Int) = 46 by omega]; exact beq_self_eq_true _)
      have y7 : (((d : Int) : Int) == (N : Int)) = true := by (rw [show ((d : Int) : Int) = (N : Int) by omega]; exact beq_self_eq_true _)
      refine AW.skip ?_
      refine Thn_n ?_
      refine hK _ _ ?_
      clear hK K
      refine AW.seq_k fun K hK => ?_
      refine AW.block ?_
      refine AW.seq_k fun K hK => ?_
      refine AW.region (by decide) ?_
      simp only [push_cast, Nat.reduceAdd, Nat.reduceMul, Nat.reduceSub, Nat.reduceLeDiff, Nat.reduceLT, Nat.reduceEqDiff, Nat.reduceBEq, Nat.reduceBNe, Nat.reduceMod, Nat.reduceDiv, Int.reduceLE, Int.reduceLT, Int.reduceToNat, Int.reduceAdd, Int.reduceSub, Int.reduceMul, Int.reduceNeg, Int.reduceEq, Int.reduceBEq, Int.reduceBNe, ↓reduceIte, reduceCtorEq, String.reduceBNe, String.reduceEq, reduceDIte, Nat.reducePow, zN, z0, z2, z9, u3, hc0, u4, y1, y2, y3, y4, y5, y6, y7]
      refine Thn_n ?_
      refine hK _ _ ?_
      clear hK K
      refine AW.cond_t rfl ?_
      refine AW.region (by decide) ?_
      simp only [push_cast, Nat.reduceAdd, Nat.reduceMul, Nat.reduceSub, Nat.reduceLeDiff, Nat.reduceLT, Nat.reduceEqDiff, Nat.reduceBEq, Nat.reduceBNe, Nat.reduceMod, Nat.reduceDiv, Int.reduceLE, Int.reduceLT, Int.reduceToNat, Int.reduceAdd, Int.reduceSub, Int.reduceMul, Int.reduceNeg, Int.reduceEq, Int.reduceBEq, Int.reduceBNe, ↓reduceIte, reduceCtorEq, String.reduceBNe, String.reduceEq, reduceDIte, Nat.reducePow, zN, z0, z2, z9, u3, hc0, u4, y1, y2, y3, y4, y5, y6, y7]
      refine InB_n ?_
      refine Thn_n ?_
      refine hK _ _ ?_
      clear hK K
      refine AW.region (by decide) ?_
      simp only [push_cast, Nat.reduceAdd, Nat.reduceMul, Nat.reduceSub, Nat.reduceLeDiff, Nat.reduceLT, Nat.reduceEqDiff, Nat.reduceBEq, Nat.reduceBNe, Nat.reduceMod, Nat.reduceDiv, Int.reduceLE, Int.reduceLT, Int.reduceToNat, Int.reduceAdd, Int.reduceSub, Int.reduceMul, Int.reduceNeg, Int.reduceEq, Int.reduceBEq, Int.reduceBNe, ↓reduceIte, reduceCtorEq, String.reduceBNe, String.reduceEq, reduceDIte, Nat.reducePow, zN, z0, z2, z9, u3, hc0, u4, y1, y2, y3, y4, y5, y6, y7]
      refine Thn_n ?_
      refine ⟨(i + 1, i), (by show 1 ≤ i + 1 ∧ i + 1 ≤ N ∧ 1 ≤ _ ∧ _ ≤ N; omega), (by show N - (i + 1) < N - i; omega), ?_⟩
      try simp only [keepL, setAll, push_cast, Nat.reduceAdd, Nat.reduceMul, Nat.reduceSub, Nat.reduceLeDiff, Nat.reduceLT, Nat.reduceEqDiff, Nat.reduceBEq, Nat.reduceBNe, Nat.reduceMod, Nat.reduceDiv, Int.reduceLE, Int.reduceLT, Int.reduceToNat, Int.reduceAdd, Int.reduceSub, Int.reduceMul, Int.reduceNeg, Int.reduceEq, Int.reduceBEq, Int.reduceBNe, ↓reduceIte, reduceCtorEq, String.reduceBNe, String.reduceEq, reduceDIte, Nat.reducePow, zN, z0, z2, z9, u3, hc0, u4, y1, y2, y3, y4, y5, y6, y7]
      exact Weak.same (by simp only [Keeps, Tm.get_cons, Nat.reduceEqDiff, ↓reduceIte, if_true, if_false, ite_true, ite_false, true_and, and_true, and_self, reduceCtorEq]) (by first | rfl | simp only [Keeps, Tm.get_cons, Nat.reduceEqDiff, ↓reduceIte, if_true, if_false, ite_true, ite_false, true_and, and_true, and_self, reduceCtorEq])
    · have y6 : (((e : Int) : Int) == 46) = true := by (rw [show ((e : Int) : Int) = 46 by omega]; exact beq_self_eq_true _)
      have y7 : (((d : Int) : Int) == (N : Int)) = false := by exact beq_false_of_ne (by omega)
      refine AW.skip ?_
      refine Thn_n ?_
      refine hK _ _ ?_
      clear hK K
      refine AW.seq_k fun K hK => ?_
      refine AW.block ?_
      refine AW.seq_k fun K hK => ?_
      refine AW.region (by decide) ?_
      simp only [push_cast, Nat.reduceAdd, Nat.reduceMul, Nat.reduceSub, Nat.reduceLeDiff, Nat.reduceLT, Nat.reduceEqDiff, Nat.reduceBEq, Nat.reduceBNe, Nat.reduceMod, Nat.reduceDiv, Int.reduceLE, Int.reduceLT, Int.reduceToNat, Int.reduceAdd, Int.reduceSub, Int.reduceMul, Int.reduceNeg, Int.reduceEq, Int.reduceBEq, Int.reduceBNe, ↓reduceIte, reduceCtorEq, String.reduceBNe, String.reduceEq, reduceDIte, Nat.reducePow, zN, z0, z2, z9, u3, hc0, u4, y1, y2, y3, y4, y5, y6, y7]
      refine Thn_n ?_
      refine hK _ _ ?_
      clear hK K
      refine AW.cond_f rfl ?_
      refine AW.skip ?_
      refine InB_n ?_
      refine Thn_n ?_
      refine hK _ _ ?_
      clear hK K
      refine AW.region (by decide) ?_
      simp only [push_cast, Nat.reduceAdd, Nat.reduceMul, Nat.reduceSub, Nat.reduceLeDiff, Nat.reduceLT, Nat.reduceEqDiff, Nat.reduceBEq, Nat.reduceBNe, Nat.reduceMod, Nat.reduceDiv, Int.reduceLE, Int.reduceLT, Int.reduceToNat, Int.reduceAdd, Int.reduceSub, Int.reduceMul, Int.reduceNeg, Int.reduceEq, Int.reduceBEq, Int.reduceBNe, ↓reduceIte, reduceCtorEq, String.reduceBNe, String.reduceEq, reduceDIte, Nat.reducePow, zN, z0, z2, z9, u3, hc0, u4, y1, y2, y3, y4, y5, y6, y7]
      refine Thn_n ?_
      refine ⟨(i + 1, d), (by show 1 ≤ i + 1 ∧ i + 1 ≤ N ∧ 1 ≤ _ ∧ _ ≤ N; omega), (by show N - (i + 1) < N - i; omega), ?_⟩
      try simp only [keepL, setAll, push_cast, Nat.reduceAdd, Nat.reduceMul, Nat.reduceSub, Nat.reduceLeDiff, Nat.reduceLT, Nat.reduceEqDiff, Nat.reduceBEq, Nat.reduceBNe, Nat.reduceMod, Nat.reduceDiv, Int.reduceLE, Int.reduceLT, Int.reduceToNat, Int.reduceAdd, Int.reduceSub, Int.reduceMul, Int.reduceNeg, Int.reduceEq, Int.reduceBEq, Int.reduceBNe, ↓reduceIte, reduceCtorEq, String.reduceBNe, String.reduceEq, reduceDIte, Nat.reducePow, zN, z0, z2, z9, u3, hc0, u4, y1, y2, y3, y4, y5, y6, y7]
      exact Weak.same (by simp only [Keeps, Tm.get_cons, Nat.reduceEqDiff, ↓reduceIte, if_true, if_false, ite_true, ite_false, true_and, and_true, and_self, reduceCtorEq]) (by first | rfl | simp only [Keeps, Tm.get_cons, Nat.reduceEqDiff, ↓reduceIte, if_true, if_false, ite_true, ite_false, true_and, and_true, and_self, reduceCtorEq])
  · have x1 : IntKind.i64.wrap ((d : Int) - 1) = (d : Int) - 1 := wi (by omega)
    have x2 : IntKind.i64.wrap ((N : Int) - (d : Int)) = (N : Int) - (d : Int) := wi (by omega)
    have hcs : d = 1 ∨ (d ≠ 1 ∧ 5 < (d : Int) - 1) ∨ (d ≠ 1 ∧ ¬ 5 < (d : Int) - 1 ∧ 17 < (N : Int) - (d : Int)) ∨ (d ≠ 1 ∧ ¬ 5 < (d : Int) - 1 ∧ ¬ 17 < (N : Int) - (d : Int)) := by omega
    rcases hcs with hc | hc | hc | hc
    · have x3 : (((d : Int) : Int) == 1) = true := by (rw [show ((d : Int) : Int) = 1 by omega]; exact beq_self_eq_true _)
      refine AW.exit ?_
      refine Thn_e ?_
      clear hK K
      refine Thn_e ?_
      refine InB_here ?_
      refine Thn_n ?_
      refine hK _ _ ?_
      clear hK K
      refine AW.seq_k fun K hK => ?_
      refine AW.seq_k fun K hK => ?_
      refine AW.region (by decide) ?_
      simp only [push_cast, Nat.reduceAdd, Nat.reduceMul, Nat.reduceSub, Nat.reduceLeDiff, Nat.reduceLT, Nat.reduceEqDiff, Nat.reduceBEq, Nat.reduceBNe, Nat.reduceMod, Nat.reduceDiv, Int.reduceLE, Int.reduceLT, Int.reduceToNat, Int.reduceAdd, Int.reduceSub, Int.reduceMul, Int.reduceNeg, Int.reduceEq, Int.reduceBEq, Int.reduceBNe, ↓reduceIte, reduceCtorEq, String.reduceBNe, String.reduceEq, reduceDIte, Nat.reducePow, zN, z0, z2, z9, u3, hc0, u4, x1, x2, x3]
      refine Thn_n ?_
      refine hK _ _ ?_
      clear hK K
      refine AW.cond_t rfl ?_
      refine AW.seq_k fun K hK => ?_
      refine AW.region (by decide) ?_
      simp only [push_cast, Nat.reduceAdd, Nat.reduceMul, Nat.reduceSub, Nat.reduceLeDiff, Nat.reduceLT, Nat.reduceEqDiff, Nat.reduceBEq, Nat.reduceBNe, Nat.reduceMod, Nat.reduceDiv, Int.reduceLE, Int.reduceLT, Int.reduceToNat, Int.reduceAdd, Int.reduceSub, Int.reduceMul, Int.reduceNeg, Int.reduceEq, Int.reduceBEq, Int.reduceBNe, ↓reduceIte, reduceCtorEq, String.reduceBNe, String.reduceEq, reduceDIte, Nat.reducePow, zN, z0, z2, z9, u3, hc0, u4, x1, x2, x3]
      refine Thn_n ?_
      refine hK _ _ ?_
      clear hK K
      refine AW.ret ?_
      refine Thn_r ?_
      refine hQ _ _ _ ?_
      first | refine RetP.drop0 (Or.inr rfl) ?_ ?_ hwf | refine RetP.drop (Or.inr rfl) ?_ ?_ hwf
      · simp only [resA, resOne, resTv, AV.tv, push_cast, Nat.reduceAdd, Nat.reduceMul, Nat.reduceSub, Nat.reduceLeDiff, Nat.reduceLT, Nat.reduceEqDiff, Nat.reduceBEq, Nat.reduceBNe, Nat.reduceMod, Nat.reduceDiv, Int.reduceLE, Int.reduceLT, Int.reduceToNat, Int.reduceAdd, Int.reduceSub, Int.reduceMul, Int.reduceNeg, Int.reduceEq, Int.reduceBEq, Int.reduceBNe, ↓reduceIte, reduceCtorEq, String.reduceBNe, String.reduceEq, reduceDIte, Nat.reducePow, zN, z0, z2, z9, u3, hc0, u4, x1, x2, x3]
      · rfl
    · have x3 : (((d : Int) : Int) == 1) = false := by exact beq_false_of_ne (by omega)
      have x4 : decide ((5 : Int) < (d : Int) - 1) = true := decide_eq_true hc.2
      refine AW.exit ?_
      refine Thn_e ?_
      clear hK K
      refine Thn_e ?_
      refine InB_here ?_
      refine Thn_n ?_
      refine hK _ _ ?_
      clear hK K
      refine AW.seq_k fun K hK => ?_
      refine AW.seq_k fun K hK => ?_
      refine AW.region (by decide) ?_
      simp only [push_cast, Nat.reduceAdd, Nat.reduceMul, Nat.reduceSub, Nat.reduceLeDiff, Nat.reduceLT, Nat.reduceEqDiff, Nat.reduceBEq, Nat.reduceBNe, Nat.reduceMod, Nat.reduceDiv, Int.reduceLE, Int.reduceLT, Int.reduceToNat, Int.reduceAdd, Int.reduceSub, Int.reduceMul, Int.reduceNeg, Int.reduceEq, Int.reduceBEq, Int.reduceBNe, ↓reduceIte, reduceCtorEq, String.reduceBNe, String.reduceEq, reduceDIte, Nat.reducePow, zN, z0, z2, z9, u3, hc0, u4, x1, x2, x3, x4]
      refine Thn_n ?_
      refine hK _ _ ?_
      clear hK K
      refine AW.cond_t rfl ?_
      refine AW.seq_k fun K hK => ?_
      refine AW.region (by decide) ?_
      simp only [push_cast, Nat.reduceAdd, Nat.reduceMul, Nat.reduceSub, Nat.reduceLeDiff, Nat.reduceLT, Nat.reduceEqDiff, Nat.reduceBEq, Nat.reduceBNe, Nat.reduceMod, Nat.reduceDiv, Int.reduceLE, Int.reduceLT, Int.reduceToNat, Int.reduceAdd, Int.reduceSub, Int.reduceMul, Int.reduceNeg, Int.reduceEq, Int.reduceBEq, Int.reduceBNe, ↓reduceIte, reduceCtorEq, String.reduceBNe, String.reduceEq, reduceDIte, Nat.reducePow, zN, z0, z2, z9, u3, hc0, u4, x1, x2, x3, x4]
      refine Thn_n ?_
      refine hK _ _ ?_
      clear hK K
      refine AW.ret ?_
      refine Thn_r ?_
      refine hQ _ _ _ ?_
      first | refine RetP.drop0 (Or.inr rfl) ?_ ?_ hwf | refine RetP.drop (Or.inr rfl) ?_ ?_ hwf
      · simp only [resA, resOne, resTv, AV.tv, push_cast, Nat.reduceAdd, Nat.reduceMul, Nat.reduceSub, Nat.reduceLeDiff, Nat.reduceLT, Nat.reduceEqDiff, Nat.reduceBEq, Nat.reduceBNe, Nat.reduceMod, Nat.reduceDiv, Int.reduceLE, Int.reduceLT, Int.reduceToNat, Int.reduceAdd, Int.reduceSub, Int.reduceMul, Int.reduceNeg, Int.reduceEq, Int.reduceBEq, Int.reduceBNe, ↓reduceIte, reduceCtorEq, String.reduceBNe, String.reduceEq, reduceDIte, Nat.reducePow, zN, z0, z2, z9, u3, hc0, u4, x1, x2, x3, x4]
      · rfl
    · have x3 : (((d : Int) : Int) == 1) = false := by exact beq_false_of_ne (by omega)
      have x4 : decide ((5 : Int) < (d : Int) - 1) = false := decide_eq_false hc.2.1
      have x5 : decide ((17 : Int) < (N : Int) - (d : Int)) = true := decide_eq_true hc.2.2
      refine AW.exit ?_
      refine Thn_e ?_
      clear hK K
      refine Thn_e ?_
      refine InB_here ?_
      refine Thn_n ?_
      refine hK _ _ ?_
      clear hK K
      refine AW.seq_k fun K hK => ?_
      refine AW.seq_k fun K hK => ?_
      refine AW.region (by decide) ?_
      simp only [push_cast, Nat.reduceAdd, Nat.reduceMul, Nat.reduceSub, Nat.reduceLeDiff, Nat.reduceLT, Nat.reduceEqDiff, Nat.reduceBEq, Nat.reduceBNe, Nat.reduceMod, Nat.reduceDiv, Int.reduceLE, Int.reduceLT, Int.reduceToNat, Int.reduceAdd, Int.reduceSub, Int.reduceMul, Int.reduceNeg, Int.reduceEq, Int.reduceBEq, Int.reduceBNe, ↓reduceIte, reduceCtorEq, String.reduceBNe, String.reduceEq, reduceDIte, Nat.reducePow, zN, z0, z2, z9, u3, hc0, u4, x1, x2, x3, x4, x5]
      refine Thn_n ?_
      refine hK _ _ ?_
      clear hK K
      refine AW.cond_t rfl ?_
      refine AW.seq_k fun K hK => ?_
      refine AW.region (by decide) ?_
      simp only [push_cast, Nat.reduceAdd, Nat.reduceMul, Nat.reduceSub, Nat.reduceLeDiff, Nat.reduceLT, Nat.reduceEqDiff, Nat.reduceBEq, Nat.reduceBNe, Nat.reduceMod, Nat.reduceDiv, Int.reduceLE, Int.reduceLT, Int.reduceToNat, Int.reduceAdd, Int.reduceSub, Int.reduceMul, Int.reduceNeg, Int.reduceEq, Int.reduceBEq, Int.reduceBNe, ↓reduceIte, reduceCtorEq, String.reduceBNe, String.reduceEq, reduceDIte, Nat.reducePow, zN, z0, z2, z9, u3, hc0, u4, x1, x2, x3, x4, x5]
      refine Thn_n ?_
      refine hK _ _ ?_
      clear hK K
      refine AW.ret ?_
      refine Thn_r ?_
      refine hQ _ _ _ ?_
      first | refine RetP.drop0 (Or.inr rfl) ?_ ?_ hwf | refine RetP.drop (Or.inr rfl) ?_ ?_ hwf
      · simp only [resA, resOne, resTv, AV.tv, push_cast, Nat.reduceAdd, Nat.reduceMul, Nat.reduceSub, Nat.reduceLeDiff, Nat.reduceLT, Nat.reduceEqDiff, Nat.reduceBEq, Nat.reduceBNe, Nat.reduceMod, Nat.reduceDiv, Int.reduceLE, Int.reduceLT, Int.reduceToNat, Int.reduceAdd, Int.reduceSub, Int.reduceMul, Int.reduceNeg, Int.reduceEq, Int.reduceBEq, Int.reduceBNe, ↓reduceIte, reduceCtorEq, String.reduceBNe, String.reduceEq, reduceDIte, Nat.reducePow, zN, z0, z2, z9, u3, hc0, u4, x1, x2, x3, x4, x5]
      · rfl
    · have x3 : (((d : Int) : Int) == 1) = false := by exact beq_false_of_ne (by omega)
      have x4 : decide ((5 : Int) < (d : Int) - 1) = false := decide_eq_false hc.2.1
      have x5 : decide ((17 : Int) < (N : Int) - (d : Int)) = false := decide_eq_false hc.2.2
      refine AW.exit ?_
      refine Thn_e ?_
      clear hK K
      refine Thn_e ?_
      refine InB_here ?_
      refine Thn_n ?_
      refine hK _ _ ?_
      clear hK K
      refine AW.seq_k fun K hK => ?_
      refine AW.seq_k fun K hK => ?_
      refine AW.region (by decide) ?_
      simp only [push_cast, Nat.reduceAdd, Nat.reduceMul, Nat.reduceSub, Nat.reduceLeDiff, Nat.reduceLT, Nat.reduceEqDiff, Nat.reduceBEq, Nat.reduceBNe, Nat.reduceMod, Nat.reduceDiv, Int.reduceLE, Int.reduceLT, Int.reduceToNat, Int.reduceAdd, Int.reduceSub, Int.reduceMul, Int.reduceNeg, Int.reduceEq, Int.reduceBEq, Int.reduceBNe, ↓reduceIte, reduceCtorEq, String.reduceBNe, String.reduceEq, reduceDIte, Nat.reducePow, zN, z0, z2, z9, u3, hc0, u4, x1, x2, x3, x4, x5]
      refine Thn_n ?_
      refine hK _ _ ?_
      clear hK K
      refine AW.cond_f rfl ?_
      refine AW.skip ?_
      refine Thn_n ?_
      refine hK _ _ ?_
      clear hK K
      refine AW.seq_k fun K hK => ?_
      refine AW.region (by decide) ?_
      simp only [push_cast, Nat.reduceAdd, Nat.reduceMul, Nat.reduceSub, Nat.reduceLeDiff, Nat.reduceLT, Nat.reduceEqDiff, Nat.reduceBEq, Nat.reduceBNe, Nat.reduceMod, Nat.reduceDiv, Int.reduceLE, Int.reduceLT, Int.reduceToNat, Int.reduceAdd, Int.reduceSub, Int.reduceMul, Int.reduceNeg, Int.reduceEq, Int.reduceBEq, Int.reduceBNe, ↓reduceIte, reduceCtorEq, String.reduceBNe, String.reduceEq, reduceDIte, Nat.reducePow, zN, z0, z2, z9, u3, hc0, u4, x1, x2, x3, x4, x5]
      refine Thn_n ?_
      refine hK _ _ ?_
      clear hK K
      refine AW.seq_k fun K hK => ?_
      refine AW.seq_k fun K hK => ?_
      refine AW.region (by decide) ?_
      simp only [push_cast, Nat.reduceAdd, Nat.reduceMul, Nat.reduceSub, Nat.reduceLeDiff, Nat.reduceLT, Nat.reduceEqDiff, Nat.reduceBEq, Nat.reduceBNe, Nat.reduceMod, Nat.reduceDiv, Int.reduceLE, Int.reduceLT, Int.reduceToNat, Int.reduceAdd, Int.reduceSub, Int.reduceMul, Int.reduceNeg, Int.reduceEq, Int.reduceBEq, Int.reduceBNe, ↓reduceIte, reduceCtorEq, String.reduceBNe, String.reduceEq, reduceDIte, Nat.reducePow, zN, z0, z2, z9, u3, hc0, u4, x1, x2, x3, x4, x5]
      refine Thn_n ?_
      refine hK _ _ ?_
      clear hK K
      refine AW.block ?_
      refine AW.loopK [0, 4, 5] (fun z => 1 ≤ z.1 ∧ z.1 ≤ d) (fun z => [(7, .one (.int .i64 z.2)), (8, .one (.int .i64 (z.1 : Int)))]) (fun z => []) (fun z => d - z.1) (1, 0) (by show 1 ≤ 1 ∧ 1 ≤ d; omega) ?_ ?_ fun z hi31 => ?_
      · first | rfl | (simp only [Keeps, Tm.get_cons, Nat.reduceEqDiff, ↓reduceIte, if_true, if_false, ite_true, ite_false, true_and, and_true, and_self, reduceCtorEq] <;> rfl)
      · first | rfl | (simp only [setAll, push_cast, Nat.reduceAdd, Nat.reduceMul, Nat.reduceSub, Nat.reduceLeDiff, Nat.reduceLT, Nat.reduceEqDiff, Nat.reduceBEq, Nat.reduceBNe, Nat.reduceMod, Nat.reduceDiv, Int.reduceLE, Int.reduceLT, Int.reduceToNat, Int.reduceAdd, Int.reduceSub, Int.reduceMul, Int.reduceNeg, Int.reduceEq, Int.reduceBEq, Int.reduceBNe, ↓reduceIte, reduceCtorEq, String.reduceBNe, String.reduceEq, reduceDIte, Nat.reducePow, zN, z0, z2, z9, u3, hc0, u4, x1, x2, x3, x4, x5] <;> rfl)
      obtain ⟨i2, n2⟩ := z
      have hI2 : 1 ≤ i2 ∧ i2 ≤ d := hi31
      try simp only [keepL, setAll, push_cast, Nat.reduceAdd, Nat.reduceMul, Nat.reduceSub, Nat.reduceLeDiff, Nat.reduceLT, Nat.reduceEqDiff, Nat.reduceBEq, Nat.reduceBNe, Nat.reduceMod, Nat.reduceDiv, Int.reduceLE, Int.reduceLT, Int.reduceToNat, Int.reduceAdd, Int.reduceSub, Int.reduceMul, Int.reduceNeg, Int.reduceEq, Int.reduceBEq, Int.reduceBNe, ↓reduceIte, reduceCtorEq, String.reduceBNe, String.reduceEq, reduceDIte, Nat.reducePow, zN, z0, z2, z9, u3, hc0, u4, x1, x2, x3, x4, x5]
      refine AW.seq_k fun K hK => ?_
      refine AW.seq_k fun K hK => ?_
      refine AW.region (by decide) ?_
      simp only [push_cast, Nat.reduceAdd, Nat.reduceMul, Nat.reduceSub, Nat.reduceLeDiff, Nat.reduceLT, Nat.reduceEqDiff, Nat.reduceBEq, Nat.reduceBNe, Nat.reduceMod, Nat.reduceDiv, Int.reduceLE, Int.reduceLT, Int.reduceToNat, Int.reduceAdd, Int.reduceSub, Int.reduceMul, Int.reduceNeg, Int.reduceEq, Int.reduceBEq, Int.reduceBNe, ↓reduceIte, reduceCtorEq, String.reduceBNe, String.reduceEq, reduceDIte, Nat.reducePow, zN, z0, z2, z9, u3, hc0, u4, x1, x2, x3, x4, x5]
      refine Thn_n ?_
      refine hK _ _ ?_
      clear hK K
      refine AW.cond rfl (fun h59 => ?_) (fun h59 => ?_)
      · have hlt : i2 < d := by have := of_decide_eq_true h59; omega
        obtain ⟨e, he⟩ : ∃ e, e = (atB t i2).toNat := ⟨_, rfl⟩
        have y1 : (0 : Int) ≤ (i2 : Int) := by omega
        have y2 : ((i2 : Int)).toNat = i2 := Int.toNat_natCast _
        have y3 : t[i2]? = some (atB t i2) := atB_get (by omega)
        have y4 : (atB t i2).toNat = e := he.symm
        have y5 : IntKind.i64.wrap ((i2 : Int) + 1) = (i2 : Int) + 1 := wi (by omega)
        have hcs : e < 48 ∨ 57 < e ∨ (48 ≤ e ∧ e ≤ 57) := by omega
        rcases hcs with hc | hc | hc
        · have y6 : decide ((e : Int) < 48) = true := decide_eq_true (by omega)
          have y7 : decide ((57 : Int) < (e : Int)) = false := decide_eq_false (by omega)
          refine AW.skip ?_
          refine Thn_n ?_
          refine hK _ _ ?_
          clear hK K
          refine AW.seq_k fun K hK => ?_
          refine AW.block ?_
          refine AW.seq_k fun K hK => ?_
          refine AW.seq_k fun K hK => ?_
          refine AW.region (by decide) ?_
          simp only [push_cast, Nat.reduceAdd, Nat.reduceMul, Nat.reduceSub, Nat.reduceLeDiff, Nat.reduceLT, Nat.reduceEqDiff, Nat.reduceBEq, Nat.reduceBNe, Nat.reduceMod, Nat.reduceDiv, Int.reduceLE, Int.reduceLT, Int.reduceToNat, Int.reduceAdd, Int.reduceSub, Int.reduceMul, Int.reduceNeg, Int.reduceEq, Int.reduceBEq, Int.reduceBNe, ↓reduceIte, reduceCtorEq, String.reduceBNe, String.reduceEq, reduceDIte, Nat.reducePow, zN, z0, z2, z9, u3, hc0, u4, x1, x2, x3, x4, x5, y1, y2, y3, y4, y5, y6, y7]
          refine Thn_n ?_
          refine hK _ _ ?_
          clear hK K
          refine AW.cond_t rfl ?_
          refine AW.seq_k fun K hK => ?_
          refine AW.region (by decide) ?_
          simp only [push_cast, Nat.reduceAdd, Nat.reduceMul, Nat.reduceSub, Nat.reduceLeDiff, Nat.reduceLT, Nat.reduceEqDiff, Nat.reduceBEq, Nat.reduceBNe, Nat.reduceMod, Nat.reduceDiv, Int.reduceLE, Int.reduceLT, Int.reduceToNat, Int.reduceAdd, Int.reduceSub, Int.reduceMul, Int.reduceNeg, Int.reduceEq, Int.reduceBEq, Int.reduceBNe, ↓reduceIte, reduceCtorEq, String.reduceBNe, String.reduceEq, reduceDIte, Nat.reducePow, zN, z0, z2, z9, u3, hc0, u4, x1, x2, x3, x4, x5, y1, y2, y3, y4, y5, y6, y7]
          refine Thn_n ?_
          refine hK _ _ ?_
          clear hK K
          refine AW.ret ?_
          refine Thn_r ?_
          refine InB_r ?_
          refine Thn_r ?_
          refine Thn_r ?_
          refine InB_r ?_
          refine Thn_r ?_
          refine hQ _ _ _ ?_
          first | refine RetP.drop0 (Or.inr rfl) ?_ ?_ hwf | refine RetP.drop (Or.inr rfl) ?_ ?_ hwf
          · simp only [resA, resOne, resTv, AV.tv, push_cast, Nat.reduceAdd, Nat.reduceMul, Nat.reduceSub, Nat.reduceLeDiff, Nat.reduceLT, Nat.reduceEqDiff, Nat.reduceBEq, Nat.reduceBNe, Nat.reduceMod, Nat.reduceDiv, Int.reduceLE, Int.reduceLT, Int.reduceToNat, Int.reduceAdd, Int.reduceSub, Int.reduceMul, Int.reduceNeg, Int.reduceEq, Int.reduceBEq, Int.reduceBNe, ↓reduceIte, reduceCtorEq, String.reduceBNe, String.reduceEq, reduceDIte, Nat.reducePow, zN, z0, z2, z9, u3, hc0, u4, x1, x2, x3, x4, x5, y1, y2, y3, y4, y5, y6, y7]
          · rfl
        · have y6 : decide ((e : Int) < 48) = false := decide_eq_false (by omega)
          have y7 : decide ((57 : Int) < (e : Int)) = true := decide_eq_true (by omega)
          refine AW.skip ?_
          refine Thn_n ?_
          refine hK _ _ ?_
          clear hK K
          refine AW.seq_k fun K hK => ?_
          refine AW.block ?_
          refine AW.seq_k fun K hK => ?_
          refine AW.seq_k fun K hK => ?_
          refine AW.region (by decide) ?_
          simp only [push_cast, Nat.reduceAdd, Nat.reduceMul, Nat.reduceSub, Nat.reduceLeDiff, Nat.reduceLT, Nat.reduceEqDiff, Nat.reduceBEq, Nat.reduceBNe, Nat.reduceMod, Nat.reduceDiv, Int.reduceLE, Int.reduceLT, Int.reduceToNat, Int.reduceAdd, Int.reduceSub, Int.reduceMul, Int.reduceNeg, Int.reduceEq, Int.reduceBEq, Int.reduceBNe, ↓reduceIte, reduceCtorEq, String.reduceBNe, String.reduceEq, reduceDIte, Nat.reducePow, zN, z0, z2, z9, u3, hc0, u4, x1, x2, x3, x4, x5, y1, y2, y3, y4, y5, y6, y7]
          refine Thn_n ?_
          refine hK _ _ ?_
          clear hK K
          refine AW.cond_t rfl ?_
          refine AW.seq_k fun K hK => ?_
          refine AW.region (by decide) ?_
          simp only [push_cast, Nat.reduceAdd, Nat.reduceMul, Nat.reduceSub, Nat.reduceLeDiff, Nat.reduceLT, Nat.reduceEqDiff, Nat.reduceBEq, Nat.reduceBNe, Nat.reduceMod, Nat.reduceDiv, Int.reduceLE, Int.reduceLT, Int.reduceToNat, Int.reduceAdd, Int.reduceSub, Int.reduceMul, Int.reduceNeg, Int.reduceEq, Int.reduceBEq, Int.reduceBNe, ↓reduceIte, reduceCtorEq, String.reduceBNe, String.reduceEq, reduceDIte, Nat.reducePow, zN, z0, z2, z9, u3, hc0, u4, x1, x2, x3, x4, x5, y1, y2, y3, y4, y5, y6, y7]
          refine Thn_n ?_
          refine hK _ _ ?_
          clear hK K
          refine AW.ret ?_
          refine Thn_r ?_
          refine InB_r ?_
          refine Thn_r ?_
          refine Thn_r ?_
          refine InB_r ?_
          refine Thn_r ?_
          refine hQ _ _ _ ?_
          first | refine RetP.drop0 (Or.inr rfl) ?_ ?_ hwf | refine RetP.drop (Or.inr rfl) ?_ ?_ hwf
          · simp only [resA, resOne, resTv, AV.tv, push_cast, Nat.reduceAdd, Nat.reduceMul, Nat.reduceSub, Nat.reduceLeDiff, Nat.reduceLT, Nat.reduceEqDiff, Nat.reduceBEq, Nat.reduceBNe, Nat.reduceMod, Nat.reduceDiv, Int.reduceLE, Int.reduceLT, Int.reduceToNat, Int.reduceAdd, Int.reduceSub, Int.reduceMul, Int.reduceNeg, Int.reduceEq, Int.reduceBEq, Int.reduceBNe, ↓reduceIte, reduceCtorEq, String.reduceBNe, String.reduceEq, reduceDIte, Nat.reducePow, zN, z0, z2, z9, u3, hc0, u4, x1, x2, x3, x4, x5, y1, y2, y3, y4, y5, y6, y7]
          · rfl
        · have y6 : decide ((e : Int) < 48) = false := decide_eq_false (by omega)
          have y7 : decide ((57 : Int) < (e : Int)) = false := decide_eq_false (by omega)
          refine AW.skip ?_
          refine Thn_n ?_
          refine hK _ _ ?_
          clear hK K
          refine AW.seq_k fun K hK => ?_
          refine AW.block ?_
          refine AW.seq_k fun K hK => ?_
          refine AW.seq_k fun K hK => ?_
          refine AW.region (by decide) ?_
          simp only [push_cast, Nat.reduceAdd, Nat.reduceMul, Nat.reduceSub, Nat.reduceLeDiff, Nat.reduceLT, Nat.reduceEqDiff, Nat.reduceBEq, Nat.reduceBNe, Nat.reduceMod, Nat.reduceDiv, Int.reduceLE, Int.reduceLT, Int.reduceToNat, Int.reduceAdd, Int.reduceSub, Int.reduceMul, Int.reduceNeg, Int.reduceEq, Int.reduceBEq, Int.reduceBNe, ↓reduceIte, reduceCtorEq, String.reduceBNe, String.reduceEq, reduceDIte, Nat.reducePow, zN, z0, z2, z9, u3, hc0, u4, x1, x2, x3, x4, x5, y1, y2, y3, y4, y5, y6, y7]
          refine Thn_n ?_
          refine hK _ _ ?_
          clear hK K
          refine AW.cond_f rfl ?_
          refine AW.skip ?_
          refine Thn_n ?_
          refine hK _ _ ?_
          clear hK K
          refine AW.region (by decide) ?_
          simp only [push_cast, Nat.reduceAdd, Nat.reduceMul, Nat.reduceSub, Nat.reduceLeDiff, Nat.reduceLT, Nat.reduceEqDiff, Nat.reduceBEq, Nat.reduceBNe, Nat.reduceMod, Nat.reduceDiv, Int.reduceLE, Int.reduceLT, Int.reduceToNat, Int.reduceAdd, Int.reduceSub, Int.reduceMul, Int.reduceNeg, Int.reduceEq, Int.reduceBEq, Int.reduceBNe, ↓reduceIte, reduceCtorEq, String.reduceBNe, String.reduceEq, reduceDIte, Nat.reducePow, zN, z0, z2, z9, u3, hc0, u4, x1, x2, x3, x4, x5, y1, y2, y3, y4, y5, y6, y7]
          refine InB_n ?_
          refine Thn_n ?_
          refine hK _ _ ?_
          clear hK K
          refine AW.region (by decide) ?_
          simp only [push_cast, Nat.reduceAdd, Nat.reduceMul, Nat.reduceSub, Nat.reduceLeDiff, Nat.reduceLT, Nat.reduceEqDiff, Nat.reduceBEq, Nat.reduceBNe, Nat.reduceMod, Nat.reduceDiv, Int.reduceLE, Int.reduceLT, Int.reduceToNat, Int.reduceAdd, Int.reduceSub, Int.reduceMul, Int.reduceNeg, Int.reduceEq, Int.reduceBEq, Int.reduceBNe, ↓reduceIte, reduceCtorEq, String.reduceBNe, String.reduceEq, reduceDIte, Nat.reducePow, zN, z0, z2, z9, u3, hc0, u4, x1, x2, x3, x4, x5, y1, y2, y3, y4, y5, y6, y7]
          refine Thn_n ?_
          refine ⟨(i2 + 1, IntKind.i64.wrap (IntKind.i64.wrap (n2 * 10) + IntKind.i64.wrap (IntKind.u8.wrap ((e : Int) - 48)))), (by show 1 ≤ i2 + 1 ∧ i2 + 1 ≤ d; omega), (by show d - (i2 + 1) < d - i2; omega), ?_⟩
          try simp only [keepL, setAll, push_cast, Nat.reduceAdd, Nat.reduceMul, Nat.reduceSub, Nat.reduceLeDiff, Nat.reduceLT, Nat.reduceEqDiff, Nat.reduceBEq, Nat.reduceBNe, Nat.reduceMod, Nat.reduceDiv, Int.reduceLE, Int.reduceLT, Int.reduceToNat, Int.reduceAdd, Int.reduceSub, Int.reduceMul, Int.reduceNeg, Int.reduceEq, Int.reduceBEq, Int.reduceBNe, ↓reduceIte, reduceCtorEq, String.reduceBNe, String.reduceEq, reduceDIte, Nat.reducePow, zN, z0, z2, z9, u3, hc0, u4, x1, x2, x3, x4, x5, y1, y2, y3, y4, y5, y6, y7]
          exact Weak.same (by simp only [Keeps, Tm.get_cons, Nat.reduceEqDiff, ↓reduceIte, if_true, if_false, ite_true, ite_false, true_and, and_true, and_self, reduceCtorEq]) (by first | rfl | simp only [Keeps, Tm.get_cons, Nat.reduceEqDiff, ↓reduceIte, if_true, if_false, ite_true, ite_false, true_and, and_true, and_self, reduceCtorEq])
      · refine AW.exit ?_
        refine Thn_e ?_
        clear hK K
        refine Thn_e ?_
        refine InB_here ?_
        refine Thn_n ?_
        refine hK _ _ ?_
        clear hK K
        refine AW.seq_k fun K hK => ?_
        refine AW.region (by decide) ?_
        simp only [push_cast, Nat.reduceAdd, Nat.reduceMul, Nat.reduceSub, Nat.reduceLeDiff, Nat.reduceLT, Nat.reduceEqDiff, Nat.reduceBEq, Nat.reduceBNe, Nat.reduceMod, Nat.reduceDiv, Int.reduceLE, Int.reduceLT, Int.reduceToNat, Int.reduceAdd, Int.reduceSub, Int.reduceMul, Int.reduceNeg, Int.reduceEq, Int.reduceBEq, Int.reduceBNe, ↓reduceIte, reduceCtorEq, String.reduceBNe, String.reduceEq, reduceDIte, Nat.reducePow, zN, z0, z2, z9, u3, hc0, u4, x1, x2, x3, x4, x5]
        refine Thn_n ?_
        refine hK _ _ ?_
        clear hK K
        refine AW.seq_k fun K hK => ?_
        refine AW.seq_k fun K hK => ?_
        refine AW.region (by decide) ?_
        simp only [push_cast, Nat.reduceAdd, Nat.reduceMul, Nat.reduceSub, Nat.reduceLeDiff, Nat.reduceLT, Nat.reduceEqDiff, Nat.reduceBEq, Nat.reduceBNe, Nat.reduceMod, Nat.reduceDiv, Int.reduceLE, Int.reduceLT, Int.reduceToNat, Int.reduceAdd, Int.reduceSub, Int.reduceMul, Int.reduceNeg, Int.reduceEq, Int.reduceBEq, Int.reduceBNe, ↓reduceIte, reduceCtorEq, String.reduceBNe, String.reduceEq, reduceDIte, Nat.reducePow, zN, z0, z2, z9, u3, hc0, u4, x1, x2, x3, x4, x5]
        refine Thn_n ?_
        refine hK _ _ ?_
        clear hK K
        refine AW.block ?_
        refine AW.loopK [0, 4, 5, 7] (fun z => z.1 ≤ N) (fun z => [(9, .one (.int .i64 z.2)), (10, .one (.int .i64 ((z.1 : Int) - 1)))]) (fun z => []) (fun z => z.1) (N, 0) (Nat.le_refl _) ?_ ?_ fun z hi48 => ?_
        · first | rfl | (simp only [Keeps, Tm.get_cons, Nat.reduceEqDiff, ↓reduceIte, if_true, if_false, ite_true, ite_false, true_and, and_true, and_self, reduceCtorEq] <;> rfl)
        · first | rfl | (simp only [setAll, push_cast, Nat.reduceAdd, Nat.reduceMul, Nat.reduceSub, Nat.reduceLeDiff, Nat.reduceLT, Nat.reduceEqDiff, Nat.reduceBEq, Nat.reduceBNe, Nat.reduceMod, Nat.reduceDiv, Int.reduceLE, Int.reduceLT, Int.reduceToNat, Int.reduceAdd, Int.reduceSub, Int.reduceMul, Int.reduceNeg, Int.reduceEq, Int.reduceBEq, Int.reduceBNe, ↓reduceIte, reduceCtorEq, String.reduceBNe, String.reduceEq, reduceDIte, Nat.reducePow, zN, z0, z2, z9, u3, hc0, u4, x1, x2, x3, x4, x5] <;> rfl)
        obtain ⟨k, x⟩ := z
        have hkN : k ≤ N := hi48
        try simp only [keepL, setAll, push_cast, Nat.reduceAdd, Nat.reduceMul, Nat.reduceSub, Nat.reduceLeDiff, Nat.reduceLT, Nat.reduceEqDiff, Nat.reduceBEq, Nat.reduceBNe, Nat.reduceMod, Nat.reduceDiv, Int.reduceLE, Int.reduceLT, Int.reduceToNat, Int.reduceAdd, Int.reduceSub, Int.reduceMul, Int.reduceNeg, Int.reduceEq, Int.reduceBEq, Int.reduceBNe, ↓reduceIte, reduceCtorEq, String.reduceBNe, String.reduceEq, reduceDIte, Nat.reducePow, zN, z0, z2, z9, u3, hc0, u4, x1, x2, x3, x4, x5]
        refine AW.seq_k fun K hK => ?_
        refine AW.seq_k fun K hK => ?_
        refine AW.region (by decide) ?_
        simp only [push_cast, Nat.reduceAdd, Nat.reduceMul, Nat.reduceSub, Nat.reduceLeDiff, Nat.reduceLT, Nat.reduceEqDiff, Nat.reduceBEq, Nat.reduceBNe, Nat.reduceMod, Nat.reduceDiv, Int.reduceLE, Int.reduceLT, Int.reduceToNat, Int.reduceAdd, Int.reduceSub, Int.reduceMul, Int.reduceNeg, Int.reduceEq, Int.reduceBEq, Int.reduceBNe, ↓reduceIte, reduceCtorEq, String.reduceBNe, String.reduceEq, reduceDIte, Nat.reducePow, zN, z0, z2, z9, u3, hc0, u4, x1, x2, x3, x4, x5]
        refine Thn_n ?_
        refine hK _ _ ?_
        clear hK K
        refine AW.cond rfl (fun h85 => ?_) (fun h85 => ?_)
        · obtain ⟨j, hj⟩ : ∃ j, k = j + 1 := ⟨k - 1, by have := of_decide_eq_true h85; omega⟩
          subst hj
          have y0 : (j : Int) + 1 - 1 = (j : Int) := by omega
          obtain ⟨e, he⟩ : ∃ e, e = (atB t j).toNat := ⟨_, rfl⟩
          have y1 : (0 : Int) ≤ (j : Int) := by omega
          have y2 : ((j : Int)).toNat = j := Int.toNat_natCast _
          have y3 : t[j]? = some (atB t j) := atB_get (by omega)
          have y4 : (atB t j).toNat = e := he.symm
          have ye : IntKind.i64.wrap ((j : Int) - 1) = (j : Int) - 1 := wi (by omega)
          have hcs : e < 48 ∨ 57 < e ∨ (48 ≤ e ∧ e ≤ 57) := by omega
          rcases hcs with hc | hc | hc
          · have y6 : decide ((e : Int) < 48) = true := decide_eq_true (by omega)
            have y7 : decide ((57 : Int) < (e : Int)) = false := decide_eq_false (by omega)
            refine AW.skip ?_
            refine Thn_n ?_
            refine hK _ _ ?_
            clear hK K
            refine AW.seq_k fun K hK => ?_
            refine AW.block ?_
            refine AW.seq_k fun K hK => ?_
            refine AW.seq_k fun K hK => ?_
            refine AW.region (by decide) ?_
            simp only [push_cast, Nat.reduceAdd, Nat.reduceMul, Nat.reduceSub, Nat.reduceLeDiff, Nat.reduceLT, Nat.reduceEqDiff, Nat.reduceBEq, Nat.reduceBNe, Nat.reduceMod, Nat.reduceDiv, Int.reduceLE, Int.reduceLT, Int.reduceToNat, Int.reduceAdd, Int.reduceSub, Int.reduceMul, Int.reduceNeg, Int.reduceEq, Int.reduceBEq, Int.reduceBNe, ↓reduceIte, reduceCtorEq, String.reduceBNe, String.reduceEq, reduceDIte, Nat.reducePow, zN, z0, z2, z9, u3, hc0, u4, x1, x2, x3, x4, x5, y0, y1, y2, y3, y4, ye, y6, y7]
            refine Thn_n ?_
            refine hK _ _ ?_
            clear hK K
            refine AW.cond_t rfl ?_
            refine AW.seq_k fun K hK => ?_
            refine AW.region (by decide) ?_
            simp only [push_cast, Nat.reduceAdd, Nat.reduceMul, Nat.reduceSub, Nat.reduceLeDiff, Nat.reduceLT, Nat.reduceEqDiff, Nat.reduceBEq, Nat.reduceBNe, Nat.reduceMod, Nat.reduceDiv, Int.reduceLE, Int.reduceLT, Int.reduceToNat, Int.reduceAdd, Int.reduceSub, Int.reduceMul, Int.reduceNeg, Int.reduceEq, Int.reduceBEq, Int.reduceBNe, ↓reduceIte, reduceCtorEq, String.reduceBNe, String.reduceEq, reduceDIte, Nat.reducePow, zN, z0, z2, z9, u3, hc0, u4, x1, x2, x3, x4, x5, y0, y1, y2, y3, y4, ye, y6, y7]
            refine Thn_n ?_
            refine hK _ _ ?_
            clear hK K
            refine AW.ret ?_
            refine Thn_r ?_
            refine InB_r ?_
            refine Thn_r ?_
            refine Thn_r ?_
            refine InB_r ?_
            refine Thn_r ?_
            refine hQ _ _ _ ?_
            first | refine RetP.drop0 (Or.inr rfl) ?_ ?_ hwf | refine RetP.drop (Or.inr rfl) ?_ ?_ hwf
            · simp only [resA, resOne, resTv, AV.tv, push_cast, Nat.reduceAdd, Nat.reduceMul, Nat.reduceSub, Nat.reduceLeDiff, Nat.reduceLT, Nat.reduceEqDiff, Nat.reduceBEq, Nat.reduceBNe, Nat.reduceMod, Nat.reduceDiv, Int.reduceLE, Int.reduceLT, Int.reduceToNat, Int.reduceAdd, Int.reduceSub, Int.reduceMul, Int.reduceNeg, Int.reduceEq, Int.reduceBEq, Int.reduceBNe, ↓reduceIte, reduceCtorEq, String.reduceBNe, String.reduceEq, reduceDIte, Nat.reducePow, zN, z0, z2, z9, u3, hc0, u4, x1, x2, x3, x4, x5, y0, y1, y2, y3, y4, ye, y6, y7]
            · rfl
          · have y6 : decide ((e : Int) < 48) = false := decide_eq_false (by omega)
            have y7 : decide ((57 : Int) < (e : Int)) = true := decide_eq_true (by omega)
            refine AW.skip ?_
            refine Thn_n ?_
            refine hK _ _ ?_
            clear hK K
            refine AW.seq_k fun K hK => ?_
            refine AW.block ?_
            refine AW.seq_k fun K hK => ?_
            refine AW.seq_k fun K hK => ?_
            refine AW.region (by decide) ?_
            simp only [push_cast, Nat.reduceAdd, Nat.reduceMul, Nat.reduceSub, Nat.reduceLeDiff, Nat.reduceLT, Nat.reduceEqDiff, Nat.reduceBEq, Nat.reduceBNe, Nat.reduceMod, Nat.reduceDiv, Int.reduceLE, Int.reduceLT, Int.reduceToNat, Int.reduceAdd, Int.reduceSub, Int.reduceMul, Int.reduceNeg, Int.reduceEq, Int.reduceBEq, Int.reduceBNe, ↓reduceIte, reduceCtorEq, String.reduceBNe, String.reduceEq, reduceDIte, Nat.reducePow, zN, z0, z2, z9, u3, hc0, u4, x1, x2, x3, x4, x5, y0, y1, y2, y3, y4, ye, y6, y7]
            refine Thn_n ?_
            refine hK _ _ ?_
            clear hK K
            refine AW.cond_t rfl ?_
            refine AW.seq_k fun K hK => ?_
            refine AW.region (by decide) ?_
            simp only [push_cast, Nat.reduceAdd, Nat.reduceMul, Nat.reduceSub, Nat.reduceLeDiff, Nat.reduceLT, Nat.reduceEqDiff, Nat.reduceBEq, Nat.reduceBNe, Nat.reduceMod, Nat.reduceDiv, Int.reduceLE, Int.reduceLT, Int.reduceToNat, Int.reduceAdd, Int.reduceSub, Int.reduceMul, Int.reduceNeg, Int.reduceEq, Int.reduceBEq, Int.reduceBNe, ↓reduceIte, reduceCtorEq, String.reduceBNe, String.reduceEq, reduceDIte, Nat.reducePow, zN, z0, z2, z9, u3, hc0, u4, x1, x2, x3, x4, x5, y0, y1, y2, y3, y4, ye, y6, y7]
            refine Thn_n ?_
            refine hK _ _ ?_
            clear hK K
            refine AW.ret ?_
            refine Thn_r ?_
            refine InB_r ?_
            refine Thn_r ?_
            refine Thn_r ?_
            refine InB_r ?_
            refine Thn_r ?_
            refine hQ _ _ _ ?_
            first | refine RetP.drop0 (Or.inr rfl) ?_ ?_ hwf | refine RetP.drop (Or.inr rfl) ?_ ?_ hwf
            · simp only [resA, resOne, resTv, AV.tv, push_cast, Nat.reduceAdd, Nat.reduceMul, Nat.reduceSub, Nat.reduceLeDiff, Nat.reduceLT, Nat.reduceEqDiff, Nat.reduceBEq, Nat.reduceBNe, Nat.reduceMod, Nat.reduceDiv, Int.reduceLE, Int.reduceLT, Int.reduceToNat, Int.reduceAdd, Int.reduceSub, Int.reduceMul, Int.reduceNeg, Int.reduceEq, Int.reduceBEq, Int.reduceBNe, ↓reduceIte, reduceCtorEq, String.reduceBNe, String.reduceEq, reduceDIte, Nat.reducePow, zN, z0, z2, z9, u3, hc0, u4, x1, x2, x3, x4, x5, y0, y1, y2, y3, y4, ye, y6, y7]
            · rfl
          · have y6 : decide ((e : Int) < 48) = false := decide_eq_false (by omega)
            have y7 : decide ((57 : Int) < (e : Int)) = false := decide_eq_false (by omega)
            refine AW.skip ?_
            refine Thn_n ?_
            refine hK _ _ ?_
            clear hK K
            refine AW.seq_k fun K hK => ?_
            refine AW.block ?_
            refine AW.seq_k fun K hK => ?_
            refine AW.seq_k fun K hK => ?_
            refine AW.region (by decide) ?_
            simp only [push_cast, Nat.reduceAdd, Nat.reduceMul, Nat.reduceSub, Nat.reduceLeDiff, Nat.reduceLT, Nat.reduceEqDiff, Nat.reduceBEq, Nat.reduceBNe, Nat.reduceMod, Nat.reduceDiv, Int.reduceLE, Int.reduceLT, Int.reduceToNat, Int.reduceAdd, Int.reduceSub, Int.reduceMul, Int.reduceNeg, Int.reduceEq, Int.reduceBEq, Int.reduceBNe, ↓reduceIte, reduceCtorEq, String.reduceBNe, String.reduceEq, reduceDIte, Nat.reducePow, zN, z0, z2, z9, u3, hc0, u4, x1, x2, x3, x4, x5, y0, y1, y2, y3, y4, ye, y6, y7]
            refine Thn_n ?_
            refine hK _ _ ?_
            clear hK K
            refine AW.cond_f rfl ?_
            refine AW.skip ?_
            refine Thn_n ?_
            refine hK _ _ ?_
            clear hK K
            refine AW.region (by decide) ?_
            simp only [push_cast, Nat.reduceAdd, Nat.reduceMul, Nat.reduceSub, Nat.reduceLeDiff, Nat.reduceLT, Nat.reduceEqDiff, Nat.reduceBEq, Nat.reduceBNe, Nat.reduceMod, Nat.reduceDiv, Int.reduceLE, Int.reduceLT, Int.reduceToNat, Int.reduceAdd, Int.reduceSub, Int.reduceMul, Int.reduceNeg, Int.reduceEq, Int.reduceBEq, Int.reduceBNe, ↓reduceIte, reduceCtorEq, String.reduceBNe, String.reduceEq, reduceDIte, Nat.reducePow, zN, z0, z2, z9, u3, hc0, u4, x1, x2, x3, x4, x5, y0, y1, y2, y3, y4, ye, y6, y7]
            refine InB_n ?_
            refine Thn_n ?_
            refine hK _ _ ?_
            clear hK K
            refine AW.region (by decide) ?_
            simp only [push_cast, Nat.reduceAdd, Nat.reduceMul, Nat.reduceSub, Nat.reduceLeDiff, Nat.reduceLT, Nat.reduceEqDiff, Nat.reduceBEq, Nat.reduceBNe, Nat.reduceMod, Nat.reduceDiv, Int.reduceLE, Int.reduceLT, Int.reduceToNat, Int.reduceAdd, Int.reduceSub, Int.reduceMul, Int.reduceNeg, Int.reduceEq, Int.reduceBEq, Int.reduceBNe, ↓reduceIte, reduceCtorEq, String.reduceBNe, String.reduceEq, reduceDIte, Nat.reducePow, zN, z0, z2, z9, u3, hc0, u4, x1, x2, x3, x4, x5, y0, y1, y2, y3, y4, ye, y6, y7]
            refine Thn_n ?_
            refine ⟨(j, IntKind.i64.wrap ((IntKind.i64.wrap (x + IntKind.i64.wrap (IntKind.i64.wrap (IntKind.u8.wrap ((e : Int) - 48)) * 65536))).tdiv 10)), (by show j ≤ N; omega), (by show j < j + 1; omega), ?_⟩
            try simp only [keepL, setAll, push_cast, Nat.reduceAdd, Nat.reduceMul, Nat.reduceSub, Nat.reduceLeDiff, Nat.reduceLT, Nat.reduceEqDiff, Nat.reduceBEq, Nat.reduceBNe, Nat.reduceMod, Nat.reduceDiv, Int.reduceLE, Int.reduceLT, Int.reduceToNat, Int.reduceAdd, Int.reduceSub, Int.reduceMul, Int.reduceNeg, Int.reduceEq, Int.reduceBEq, Int.reduceBNe, ↓reduceIte, reduceCtorEq, String.reduceBNe, String.reduceEq, reduceDIte, Nat.reducePow, zN, z0, z2, z9, u3, hc0, u4, x1, x2, x3, x4, x5, y0, y1, y2, y3, y4, ye, y6, y7]
            exact Weak.same (by simp only [Keeps, Tm.get_cons, Nat.reduceEqDiff, ↓reduceIte, if_true, if_false, ite_true, ite_false, true_and, and_true, and_self, reduceCtorEq]) (by first | rfl | simp only [Keeps, Tm.get_cons, Nat.reduceEqDiff, ↓reduceIte, if_true, if_false, ite_true, ite_false, true_and, and_true, and_self, reduceCtorEq])
        · obtain ⟨A1, hA1⟩ : ∃ A1, A1 = IntKind.i64.wrap (IntKind.i64.wrap (n2 * 65536) + x) := ⟨_, rfl⟩
          obtain ⟨A, hA⟩ : ∃ A, A = IntKind.i64.wrap (0 - A1) := ⟨_, rfl⟩
          have hcs : 2147483648 < A ∨ A < -2147483648 ∨ (-2147483648 ≤ A ∧ A ≤ 2147483648) := by omega
          rcases hcs with hc | hc | hc
          · have z7 : decide ((2147483648 : Int) < A) = true := decide_eq_true (by omega)
            have z8 : decide (A < -2147483648) = false := decide_eq_false (by omega)
            refine AW.exit ?_
            refine Thn_e ?_
            clear hK K
            refine Thn_e ?_
            refine InB_here ?_
            refine Thn_n ?_
            refine hK _ _ ?_
            clear hK K
            refine AW.seq_k fun K hK => ?_
            iterate 2
              refine AW.region (by decide) ?_
              simp only [push_cast, Nat.reduceAdd, Nat.reduceMul, Nat.reduceSub, Nat.reduceLeDiff, Nat.reduceLT, Nat.reduceEqDiff, Nat.reduceBEq, Nat.reduceBNe, Nat.reduceMod, Nat.reduceDiv, Int.reduceLE, Int.reduceLT, Int.reduceToNat, Int.reduceAdd, Int.reduceSub, Int.reduceMul, Int.reduceNeg, Int.reduceEq, Int.reduceBEq, Int.reduceBNe, ↓reduceIte, reduceCtorEq, String.reduceBNe, String.reduceEq, reduceDIte, Nat.reducePow, zN, z0, z2, z9, u3, hc0, u4, x1, x2, x3, x4, x5, ← hA1, ← hA, z7, z8]
              refine Thn_n ?_
              refine hK _ _ ?_
              clear hK K
              refine AW.seq_k fun K hK => ?_
              refine AW.seq_k fun K hK => ?_
              refine AW.region (by decide) ?_
              simp only [push_cast, Nat.reduceAdd, Nat.reduceMul, Nat.reduceSub, Nat.reduceLeDiff, Nat.reduceLT, Nat.reduceEqDiff, Nat.reduceBEq, Nat.reduceBNe, Nat.reduceMod, Nat.reduceDiv, Int.reduceLE, Int.reduceLT, Int.reduceToNat, Int.reduceAdd, Int.reduceSub, Int.reduceMul, Int.reduceNeg, Int.reduceEq, Int.reduceBEq, Int.reduceBNe, ↓reduceIte, reduceCtorEq, String.reduceBNe, String.reduceEq, reduceDIte, Nat.reducePow, zN, z0, z2, z9, u3, hc0, u4, x1, x2, x3, x4, x5, ← hA1, ← hA, z7, z8]
              refine Thn_n ?_
              refine hK _ _ ?_
              clear hK K
              refine AW.cond_t rfl ?_
            refine AW.seq_k fun K hK => ?_
            refine AW.region (by decide) ?_
            simp only [push_cast, Nat.reduceAdd, Nat.reduceMul, Nat.reduceSub, Nat.reduceLeDiff, Nat.reduceLT, Nat.reduceEqDiff, Nat.reduceBEq, Nat.reduceBNe, Nat.reduceMod, Nat.reduceDiv, Int.reduceLE, Int.reduceLT, Int.reduceToNat, Int.reduceAdd, Int.reduceSub, Int.reduceMul, Int.reduceNeg, Int.reduceEq, Int.reduceBEq, Int.reduceBNe, ↓reduceIte, reduceCtorEq, String.reduceBNe, String.reduceEq, reduceDIte, Nat.reducePow, zN, z0, z2, z9, u3, hc0, u4, x1, x2, x3, x4, x5, ← hA1, ← hA, z7, z8]
            refine Thn_n ?_
            refine hK _ _ ?_
            clear hK K
            refine AW.ret ?_
            refine Thn_r ?_
            refine hQ _ _ _ ?_
            first | refine RetP.drop0 (Or.inr rfl) ?_ ?_ hwf | refine RetP.drop (Or.inr rfl) ?_ ?_ hwf
            · simp only [resA, resOne, resTv, AV.tv, push_cast, Nat.reduceAdd, Nat.reduceMul, Nat.reduceSub, Nat.reduceLeDiff, Nat.reduceLT, Nat.reduceEqDiff, Nat.reduceBEq, Nat.reduceBNe, Nat.reduceMod, Nat.reduceDiv, Int.reduceLE, Int.reduceLT, Int.reduceToNat, Int.reduceAdd, Int.reduceSub, Int.reduceMul, Int.reduceNeg, Int.reduceEq, Int.reduceBEq, Int.reduceBNe, ↓reduceIte, reduceCtorEq, String.reduceBNe, String.reduceEq, reduceDIte, Nat.reducePow, zN, z0, z2, z9, u3, hc0, u4, x1, x2, x3, x4, x5, ← hA1, ← hA, z7, z8]
            · rfl
          · have z7 : decide ((2147483648 : Int) < A) = false := decide_eq_false (by omega)
            have z8 : decide (A < -2147483648) = true := decide_eq_true (by omega)
            refine AW.exit ?_
            refine Thn_e ?_
            clear hK K
            refine Thn_e ?_
            refine InB_here ?_
            refine Thn_n ?_
            refine hK _ _ ?_
            clear hK K
            refine AW.seq_k fun K hK => ?_
            iterate 2
              refine AW.region (by decide) ?_
              simp only [push_cast, Nat.reduceAdd, Nat.reduceMul, Nat.reduceSub, Nat.reduceLeDiff, Nat.reduceLT, Nat.reduceEqDiff, Nat.reduceBEq, Nat.reduceBNe, Nat.reduceMod, Nat.reduceDiv, Int.reduceLE, Int.reduceLT, Int.reduceToNat, Int.reduceAdd, Int.reduceSub, Int.reduceMul, Int.reduceNeg, Int.reduceEq, Int.reduceBEq, Int.reduceBNe, ↓reduceIte, reduceCtorEq, String.reduceBNe, String.reduceEq, reduceDIte, Nat.reducePow, zN, z0, z2, z9, u3, hc0, u4, x1, x2, x3, x4, x5, ← hA1, ← hA, z7, z8]
              refine Thn_n ?_
              refine hK _ _ ?_
              clear hK K
              refine AW.seq_k fun K hK => ?_
              refine AW.seq_k fun K hK => ?_
              refine AW.region (by decide) ?_
              simp only [push_cast, Nat.reduceAdd, Nat.reduceMul, Nat.reduceSub, Nat.reduceLeDiff, Nat.reduceLT, Nat.reduceEqDiff, Nat.reduceBEq, Nat.reduceBNe, Nat.reduceMod, Nat.reduceDiv, Int.reduceLE, Int.reduceLT, Int.reduceToNat, Int.reduceAdd, Int.reduceSub, Int.reduceMul, Int.reduceNeg, Int.reduceEq, Int.reduceBEq, Int.reduceBNe, ↓reduceIte, reduceCtorEq, String.reduceBNe, String.reduceEq, reduceDIte, Nat.reducePow, zN, z0, z2, z9, u3, hc0, u4, x1, x2, x3, x4, x5, ← hA1, ← hA, z7, z8]
              refine Thn_n ?_
              refine hK _ _ ?_
              clear hK K
              refine AW.cond_t rfl ?_
            refine AW.seq_k fun K hK => ?_
            refine AW.region (by decide) ?_
            simp only [push_cast, Nat.reduceAdd, Nat.reduceMul, Nat.reduceSub, Nat.reduceLeDiff, Nat.reduceLT, Nat.reduceEqDiff, Nat.reduceBEq, Nat.reduceBNe, Nat.reduceMod, Nat.reduceDiv, Int.reduceLE, Int.reduceLT, Int.reduceToNat, Int.reduceAdd, Int.reduceSub, Int.reduceMul, Int.reduceNeg, Int.reduceEq, Int.reduceBEq, Int.reduceBNe, ↓reduceIte, reduceCtorEq, String.reduceBNe, String.reduceEq, reduceDIte, Nat.reducePow, zN, z0, z2, z9, u3, hc0, u4, x1, x2, x3, x4, x5, ← hA1, ← hA, z7, z8]
            refine Thn_n ?_
            refine hK _ _ ?_
            clear hK K
            refine AW.ret ?_
            refine Thn_r ?_
            refine hQ _ _ _ ?_
            first | refine RetP.drop0 (Or.inr rfl) ?_ ?_ hwf | refine RetP.drop (Or.inr rfl) ?_ ?_ hwf
            · simp only [resA, resOne, resTv, AV.tv, push_cast, Nat.reduceAdd, Nat.reduceMul, Nat.reduceSub, Nat.reduceLeDiff, Nat.reduceLT, Nat.reduceEqDiff, Nat.reduceBEq, Nat.reduceBNe, Nat.reduceMod, Nat.reduceDiv, Int.reduceLE, Int.reduceLT, Int.reduceToNat, Int.reduceAdd, Int.reduceSub, Int.reduceMul, Int.reduceNeg, Int.reduceEq, Int.reduceBEq, Int.reduceBNe, ↓reduceIte, reduceCtorEq, String.reduceBNe, String.reduceEq, reduceDIte, Nat.reducePow, zN, z0, z2, z9, u3, hc0, u4, x1, x2, x3, x4, x5, ← hA1, ← hA, z7, z8]
            · rfl
          · have z7 : decide ((2147483648 : Int) < A) = false := decide_eq_false (by omega)
            have z8 : decide (A < -2147483648) = false := decide_eq_false (by omega)
            obtain ⟨sT, hne, hcT⟩ := hTx A hc.1 hc.2
            refine AW.exit ?_
            refine Thn_e ?_
            clear hK K
            refine Thn_e ?_
            refine InB_here ?_
            refine Thn_n ?_
            refine hK _ _ ?_
            clear hK K
            refine AW.seq_k fun K hK => ?_
            refine AW.region (by decide) ?_
            simp only [push_cast, Nat.reduceAdd, Nat.reduceMul, Nat.reduceSub, Nat.reduceLeDiff, Nat.reduceLT, Nat.reduceEqDiff, Nat.reduceBEq, Nat.reduceBNe, Nat.reduceMod, Nat.reduceDiv, Int.reduceLE, Int.reduceLT, Int.reduceToNat, Int.reduceAdd, Int.reduceSub, Int.reduceMul, Int.reduceNeg, Int.reduceEq, Int.reduceBEq, Int.reduceBNe, ↓reduceIte, reduceCtorEq, String.reduceBNe, String.reduceEq, reduceDIte, Nat.reducePow, zN, z0, z2, z9, u3, hc0, u4, x1, x2, x3, x4, x5, ← hA1, ← hA, z7, z8, hne]
            refine Thn_n ?_
            refine hK _ _ ?_
            clear hK K
            refine AW.seq_k fun K hK => ?_
            refine AW.seq_k fun K hK => ?_
            refine AW.region (by decide) ?_
            simp only [push_cast, Nat.reduceAdd, Nat.reduceMul, Nat.reduceSub, Nat.reduceLeDiff, Nat.reduceLT, Nat.reduceEqDiff, Nat.reduceBEq, Nat.reduceBNe, Nat.reduceMod, Nat.reduceDiv, Int.reduceLE, Int.reduceLT, Int.reduceToNat, Int.reduceAdd, Int.reduceSub, Int.reduceMul, Int.reduceNeg, Int.reduceEq, Int.reduceBEq, Int.reduceBNe, ↓reduceIte, reduceCtorEq, String.reduceBNe, String.reduceEq, reduceDIte, Nat.reducePow, zN, z0, z2, z9, u3, hc0, u4, x1, x2, x3, x4, x5, ← hA1, ← hA, z7, z8, hne]
            refine Thn_n ?_
            refine hK _ _ ?_
            clear hK K
            refine AW.cond_t rfl ?_
            refine AW.region (by decide) ?_
            simp only [push_cast, Nat.reduceAdd, Nat.reduceMul, Nat.reduceSub, Nat.reduceLeDiff, Nat.reduceLT, Nat.reduceEqDiff, Nat.reduceBEq, Nat.reduceBNe, Nat.reduceMod, Nat.reduceDiv, Int.reduceLE, Int.reduceLT, Int.reduceToNat, Int.reduceAdd, Int.reduceSub, Int.reduceMul, Int.reduceNeg, Int.reduceEq, Int.reduceBEq, Int.reduceBNe, ↓reduceIte, reduceCtorEq, String.reduceBNe, String.reduceEq, reduceDIte, Nat.reducePow, zN, z0, z2, z9, u3, hc0, u4, x1, x2, x3, x4, x5, ← hA1, ← hA, z7, z8, hne]
            refine Thn_n ?_
            refine hK _ _ ?_
            clear hK K
            refine AW.seq_k fun K hK => ?_
            refine AW.seq_k fun K hK => ?_
            refine AW.region (by decide) ?_
            simp only [push_cast, Nat.reduceAdd, Nat.reduceMul, Nat.reduceSub, Nat.reduceLeDiff, Nat.reduceLT, Nat.reduceEqDiff, Nat.reduceBEq, Nat.reduceBNe, Nat.reduceMod, Nat.reduceDiv, Int.reduceLE, Int.reduceLT, Int.reduceToNat, Int.reduceAdd, Int.reduceSub, Int.reduceMul, Int.reduceNeg, Int.reduceEq, Int.reduceBEq, Int.reduceBNe, ↓reduceIte, reduceCtorEq, String.reduceBNe, String.reduceEq, reduceDIte, Nat.reducePow, zN, z0, z2, z9, u3, hc0, u4, x1, x2, x3, x4, x5, ← hA1, ← hA, z7, z8, hne]
            refine CThen.by (hcT) ?_
            simp only [push_cast, Nat.reduceAdd, Nat.reduceMul, Nat.reduceSub, Nat.reduceLeDiff, Nat.reduceLT, Nat.reduceEqDiff, Nat.reduceBEq, Nat.reduceBNe, Nat.reduceMod, Nat.reduceDiv, Int.reduceLE, Int.reduceLT, Int.reduceToNat, Int.reduceAdd, Int.reduceSub, Int.reduceMul, Int.reduceNeg, Int.reduceEq, Int.reduceBEq, Int.reduceBNe, ↓reduceIte, reduceCtorEq, String.reduceBNe, String.reduceEq, reduceDIte, Nat.reducePow, zN, z0, z2, z9, u3, hc0, u4, x1, x2, x3, x4, x5, ← hA1, ← hA, z7, z8, hne]
            refine Thn_n ?_
            refine hK _ _ ?_
            clear hK K
            refine AW.cond_t rfl ?_
            refine AW.seq_k fun K hK => ?_
            refine AW.region (by decide) ?_
            simp only [push_cast, Nat.reduceAdd, Nat.reduceMul, Nat.reduceSub, Nat.reduceLeDiff, Nat.reduceLT, Nat.reduceEqDiff, Nat.reduceBEq, Nat.reduceBNe, Nat.reduceMod, Nat.reduceDiv, Int.reduceLE, Int.reduceLT, Int.reduceToNat, Int.reduceAdd, Int.reduceSub, Int.reduceMul, Int.reduceNeg, Int.reduceEq, Int.reduceBEq, Int.reduceBNe, ↓reduceIte, reduceCtorEq, String.reduceBNe, String.reduceEq, reduceDIte, Nat.reducePow, zN, z0, z2, z9, u3, hc0, u4, x1, x2, x3, x4, x5, ← hA1, ← hA, z7, z8, hne]
            refine Thn_n ?_
            refine hK _ _ ?_
            clear hK K
            refine AW.ret ?_
            refine Thn_r ?_
            refine hQ _ _ _ ?_
            first | refine RetP.drop0 (Or.inr rfl) ?_ ?_ hwf | refine RetP.drop (Or.inr rfl) ?_ ?_ hwf
            · simp only [resA, resOne, resTv, AV.tv, push_cast, Nat.reduceAdd, Nat.reduceMul, Nat.reduceSub, Nat.reduceLeDiff, Nat.reduceLT, Nat.reduceEqDiff, Nat.reduceBEq, Nat.reduceBNe, Nat.reduceMod, Nat.reduceDiv, Int.reduceLE, Int.reduceLT, Int.reduceToNat, Int.reduceAdd, Int.reduceSub, Int.reduceMul, Int.reduceNeg, Int.reduceEq, Int.reduceBEq, Int.reduceBNe, ↓reduceIte, reduceCtorEq, String.reduceBNe, String.reduceEq, reduceDIte, Nat.reducePow, zN, z0, z2, z9, u3, hc0, u4, x1, x2, x3, x4, x5, ← hA1, ← hA, z7, z8, hne]
            · rfl
end Go.Proofs.YtlhppfdokgeijaaDoor

set_option linter.unusedSimpArgs false
set_option linter.unusedVariables false
set_option maxRecDepth 100000
set_option maxHeartbeats 4000000
namespace Go.Proofs.YtlhppfdokgeijaaDoor
open Go Go.Eng

theorem rparse_gn (t : ByteArray) (N dp q r L : Nat) (A : Int) (nv : Nat → Nat) (m : AMem) (hN : t.size = N) (hN1 : N ≤ 1000) (hFd : 1 < dp) (hd5 : dp ≤ 6) (hNd : (N = dp ∧ L = 0) ∨ (N = dp + 1 + L ∧ (atB t dp).toNat = 46)) (hL16 : L ≤ 16) (hr : r < 65536) (hL0 : rm r L = 0) (hn0 : nv 1 = 0) (hnq : nv dp = q) (hnb : ∀ i, i ≤ dp → nv i ≤ 65535) (hst : ∀ i, 1 ≤ i → i < dp → nv (i + 1) = nv i * 10 + ((atB t i).toNat - 48) ∧ 48 ≤ (atB t i).toNat ∧ (atB t i).toNat ≤ 57) (htl : ∀ i, i < L → atB t (dp + 1 + i) = dgt (rm r i * 10 / 65536)) (hb : q * 65536 + r ≤ 2147483648) (hA : A = -((q * 65536 + r : Nat) : Int)) (c0 : Nat) (hc0 : (atB t 0).toNat = c0) (h45 : c0 = 45) (hTx : Ctr Tryd.prog 38 [.one (.int .i64 A)] m (.one (.str t)) m) : Ctr Tryd.prog 36 [.one (.str t)] m (.tup [(false, [.int .i64 (A)]), (false, [.int .i64 (0)])]) m := by
  refine Ctr.enter Tryd.func36 rfl (by decide) (rs := [.tmp 2, .tmp 3]) (nt := 128) rfl rfl fun hwf Q hQ => ?_
  have zN : (t.size : Int) = (N : Int) := by rw [hN]
  have z0 : decide ((0 : Int) < (N : Int)) = true := decide_eq_true (by omega)
  have z2 : IntKind.i64.wrap ((N : Int) - 1) = (N : Int) - 1 := wi (by omega)
  have z4 : IntKind.i64.wrap ((q : Int) * 65536) = (q : Int) * 65536 := wi (by omega)
  have z5 : IntKind.i64.wrap ((q : Int) * 65536 + (r : Int)) = (q : Int) * 65536 + (r : Int) := wi (by omega)
  have z6 : IntKind.i64.wrap (0 - ((q : Int) * 65536 + (r : Int))) = A := by rw [wi (by omega), hA]; omega
  have zw : IntKind.i64.wrap A = A := wi (by omega)
  have z7 : decide ((2147483648 : Int) < A) = false := decide_eq_false (by omega)
  have z8 : decide (A < -2147483648) = false := decide_eq_false (by omega)
  have z9 : ∀ l : List UInt8, (l == l) = true := fun l => beq_self_eq_true l
  have u3 : t[(0 : Nat)]? = some (atB t 0) := atB_get (by omega)
  have u4 : ((c0 : Int) == 45) = true := by rw [h45]; rfl
  have x1 : IntKind.i64.wrap ((dp : Int) - 1) = (dp : Int) - 1 := by rw [wi (by omega)]
  have x2 : IntKind.i64.wrap ((N : Int) - (dp : Int)) = (N : Int) - (dp : Int) := wi (by omega)
  have x3 : (((dp : Int) : Int) == 1) = false := by exact beq_false_of_ne (by omega)
  have x4 : decide ((5 : Int) < (dp : Int) - 1) = false := decide_eq_false (by omega)
  have x5 : decide ((17 : Int) < (N : Int) - (dp : Int)) = false := decide_eq_false (by omega)
  have hR0 : rm r (N - (dp + 1)) = 0 := by
    rcases hNd with ⟨h1, h2⟩ | ⟨h1, _⟩
    · rw [show N - (dp + 1) = L by omega]; exact hL0
    · rw [show N - (dp + 1) = L by omega]; exact hL0
  iterate 2
    refine AW.seq_k fun K hK => ?_
    refine AW.region (by decide) ?_
    simp only [push_cast, Nat.reduceAdd, Nat.reduceMul, Nat.reduceSub, Nat.reduceLeDiff, Nat.reduceLT, Nat.reduceEqDiff, Nat.reduceBEq, Nat.reduceBNe, Nat.reduceMod, Nat.reduceDiv, Int.reduceLE, Int.reduceLT, Int.reduceToNat, Int.reduceAdd, Int.reduceSub, Int.reduceMul, Int.reduceNeg, Int.reduceEq, Int.reduceBEq, Int.reduceBNe, ↓reduceIte, reduceCtorEq, String.reduceBNe, String.reduceEq, reduceDIte, Nat.reducePow, zN, z0, z2, z4, z5, z6, zw, z7, z8, z9, u3, hc0, u4, x1, x2, x3, x4, x5]
    refine Thn_n ?_
    refine hK _ _ ?_
    clear hK K
  refine AW.seq_k fun K hK => ?_
  refine AW.seq_k fun K hK => ?_
  refine AW.region (by decide) ?_
  simp only [push_cast, Nat.reduceAdd, Nat.reduceMul, Nat.reduceSub, Nat.reduceLeDiff, Nat.reduceLT, Nat.reduceEqDiff, Nat.reduceBEq, Nat.reduceBNe, Nat.reduceMod, Nat.reduceDiv, Int.reduceLE, Int.reduceLT, Int.reduceToNat, Int.reduceAdd, Int.reduceSub, Int.reduceMul, Int.reduceNeg, Int.reduceEq, Int.reduceBEq, Int.reduceBNe, ↓reduceIte, reduceCtorEq, String.reduceBNe, String.reduceEq, reduceDIte, Nat.reducePow, zN, z0, z2, z4, z5, z6, zw, z7, z8, z9, u3, hc0, u4, x1, x2, x3, x4, x5]
  refine Thn_n ?_
  refine hK _ _ ?_
  clear hK K
  refine AW.cond_t rfl ?_
  iterate 2
    refine AW.region (by decide) ?_
    simp only [push_cast, Nat.reduceAdd, Nat.reduceMul, Nat.reduceSub, Nat.reduceLeDiff, Nat.reduceLT, Nat.reduceEqDiff, Nat.reduceBEq, Nat.reduceBNe, Nat.reduceMod, Nat.reduceDiv, Int.reduceLE, Int.reduceLT, Int.reduceToNat, Int.reduceAdd, Int.reduceSub, Int.reduceMul, Int.reduceNeg, Int.reduceEq, Int.reduceBEq, Int.reduceBNe, ↓reduceIte, reduceCtorEq, String.reduceBNe, String.reduceEq, reduceDIte, Nat.reducePow, zN, z0, z2, z4, z5, z6, zw, z7, z8, z9, u3, hc0, u4, x1, x2, x3, x4, x5]
    refine Thn_n ?_
    refine hK _ _ ?_
    clear hK K
    refine AW.seq_k fun K hK => ?_
  refine AW.seq_k fun K hK => ?_
  refine AW.region (by decide) ?_
  simp only [push_cast, Nat.reduceAdd, Nat.reduceMul, Nat.reduceSub, Nat.reduceLeDiff, Nat.reduceLT, Nat.reduceEqDiff, Nat.reduceBEq, Nat.reduceBNe, Nat.reduceMod, Nat.reduceDiv, Int.reduceLE, Int.reduceLT, Int.reduceToNat, Int.reduceAdd, Int.reduceSub, Int.reduceMul, Int.reduceNeg, Int.reduceEq, Int.reduceBEq, Int.reduceBNe, ↓reduceIte, reduceCtorEq, String.reduceBNe, String.reduceEq, reduceDIte, Nat.reducePow, zN, z0, z2, z4, z5, z6, zw, z7, z8, z9, u3, hc0, u4, x1, x2, x3, x4, x5]
  refine Thn_n ?_
  refine hK _ _ ?_
  clear hK K
  refine AW.block ?_
  refine AW.loopK [0, 4] (fun z => 1 ≤ z.1 ∧ z.1 ≤ N ∧ ((z.1 ≤ dp ∧ z.2 = N) ∨ (dp < z.1 ∧ z.2 = dp))) (fun z => [(5, .one (.int .i64 (z.2 : Int))), (6, .one (.int .i64 (z.1 : Int)))]) (fun z => []) (fun z => N - z.1) (1, N) (by dsimp only; omega) ?_ ?_ fun z hi8 => ?_
  · first | rfl | (simp only [Keeps, Tm.get_cons, Nat.reduceEqDiff, ↓reduceIte, if_true, if_false, ite_true, ite_false, true_and, and_true, and_self, reduceCtorEq] <;> rfl)
  · first | rfl | (simp only [setAll, push_cast, Nat.reduceAdd, Nat.reduceMul, Nat.reduceSub, Nat.reduceLeDiff, Nat.reduceLT, Nat.reduceEqDiff, Nat.reduceBEq, Nat.reduceBNe, Nat.reduceMod, Nat.reduceDiv, Int.reduceLE, Int.reduceLT, Int.reduceToNat, Int.reduceAdd, Int.reduceSub, Int.reduceMul, Int.reduceNeg, Int.reduceEq, Int.reduceBEq, Int.reduceBNe, ↓reduceIte, reduceCtorEq, String.reduceBNe, String.reduceEq, reduceDIte, Nat.reducePow, zN, z0, z2, z4, z5, z6, zw, z7, z8, z9, u3, hc0, u4, x1, x2, x3, x4, x5] <;> rfl)
  obtain ⟨i, d⟩ := z
  have hI : 1 ≤ i ∧ i ≤ N ∧ ((i ≤ dp ∧ d = N) ∨ (dp < i ∧ d = dp)) := hi8
  try simp only [keepL, setAll, push_cast, Nat.reduceAdd, Nat.reduceMul, Nat.reduceSub, Nat.reduceLeDiff, Nat.reduceLT, Nat.reduceEqDiff, Nat.reduceBEq, Nat.reduceBNe, Nat.reduceMod, Nat.reduceDiv, Int.reduceLE, Int.reduceLT, Int.reduceToNat, Int.reduceAdd, Int.reduceSub, Int.reduceMul, Int.reduceNeg, Int.reduceEq, Int.reduceBEq, Int.reduceBNe, ↓reduceIte, reduceCtorEq, String.reduceBNe, String.reduceEq, reduceDIte, Nat.reducePow, zN, z0, z2, z4, z5, z6, zw, z7, z8, z9, u3, hc0, u4, x1, x2, x3, x4, x5]
  refine AW.seq_k fun K hK => ?_
  refine AW.seq_k fun K hK => ?_
  refine AW.region (by decide) ?_
  simp only [push_cast, Nat.reduceAdd, Nat.reduceMul, Nat.reduceSub, Nat.reduceLeDiff, Nat.reduceLT, Nat.reduceEqDiff, Nat.reduceBEq, Nat.reduceBNe, Nat.reduceMod, Nat.reduceDiv, Int.reduceLE, Int.reduceLT, Int.reduceToNat, Int.reduceAdd, Int.reduceSub, Int.reduceMul, Int.reduceNeg, Int.reduceEq, Int.reduceBEq, Int.reduceBNe, ↓reduceIte, reduceCtorEq, String.reduceBNe, String.reduceEq, reduceDIte, Nat.reducePow, zN, z0, z2, z4, z5, z6, zw, z7, z8, z9, u3, hc0, u4, x1, x2, x3, x4, x5]
  refine Thn_n ?_
  refine hK _ _ ?_
  clear hK K
  refine AW.cond rfl (fun h26 => ?_) (fun h26 => ?_)
  · have hlt : i < N := by have := of_decide_eq_true h26; omega
    obtain ⟨e, he⟩ : ∃ e, e = (atB t i).toNat := ⟨_, rfl⟩
    have y1 : (0 : Int) ≤ (i : Int) := by omega
    have y2 : ((i : Int)).toNat = i := Int.toNat_natCast _
    have y3 : t[i]? = some (atB t i) := atB_get (by omega)
    have y4 : (atB t i).toNat = e := he.symm
    have y5 : IntKind.i64.wrap ((i : Int) + 1) = (i : Int) + 1 := wi (by omega)
    have hcs : (e ≠ 46 ∧ i ≠ dp) ∨ (e = 46 ∧ i = dp ∧ d = N) := by
      rcases Nat.lt_trichotomy i dp with h | h | h
      · have := hst i (by omega) h; omega
      · right
        rcases hNd with ⟨h1, _⟩ | ⟨_, h2⟩
        · omega
        · rw [h] at he; omega
      · left
        have h3 := htl (i - (dp + 1)) (by omega)
        rw [show dp + 1 + (i - (dp + 1)) = i by omega] at h3
        have h4 := rm_lt hr (i - (dp + 1))
        have h5 := dgt_val (d := rm r (i - (dp + 1)) * 10 / 65536) (by omega)
        rw [← h3] at h5; omega
    rcases hcs with hc | hc
    · have y6 : (((e : Int) : Int) == 46) = false := by exact beq_false_of_ne (by omega)
      refine AW.skip ?_
      refine Thn_n ?_
      refine hK _ _ ?_
      clear hK K
      refine AW.seq_k fun K hK => ?_
      refine AW.block ?_
      refine AW.seq_k fun K hK => ?_
      refine AW.region (by decide) ?_
      simp only [push_cast, Nat.reduceAdd, Nat.reduceMul, Nat.reduceSub, Nat.reduceLeDiff, Nat.reduceLT, Nat.reduceEqDiff, Nat.reduceBEq, Nat.reduceBNe, Nat.reduceMod, Nat.reduceDiv, Int.reduceLE, Int.reduceLT, Int.reduceToNat, Int.reduceAdd, Int.reduceSub, Int.reduceMul, Int.reduceNeg, Int.reduceEq, Int.reduceBEq, Int.reduceBNe, ↓reduceIte, reduceCtorEq, String.reduceBNe, String.reduceEq, reduceDIte, Nat.reducePow, zN, z0, z2, z4, z5, z6, zw, z7, z8, z9, u3, hc0, u4, x1, x2, x3, x4, x5, y1, y2, y3, y4, y5, y6]
      refine Thn_n ?_
      refine hK _ _ ?_
      clear hK K
      refine AW.cond_f rfl ?_
      refine AW.skip ?_
      refine InB_n ?_
      refine Thn_n ?_
      refine hK _ _ ?_
      clear hK K
      refine AW.region (by decide) ?_
      simp only [push_cast, Nat.reduceAdd, Nat.reduceMul, Nat.reduceSub, Nat.reduceLeDiff, Nat.reduceLT, Nat.reduceEqDiff, Nat.reduceBEq, Nat.reduceBNe, Nat.reduceMod, Nat.reduceDiv, Int.reduceLE, Int.reduceLT, Int.reduceToNat, Int.reduceAdd, Int.reduceSub, Int.reduceMul, Int.reduceNeg, Int.reduceEq, Int.reduceBEq, Int.reduceBNe, ↓reduceIte, reduceCtorEq, String.reduceBNe, String.reduceEq, reduceDIte, Nat.reducePow, zN, z0, z2, z4, z5, z6, zw, z7, z8, z9, u3, hc0, u4, x1, x2, x3, x4, x5, y1, y2, y3, y4, y5, y6]
      refine Thn_n ?_
      refine ⟨(i + 1, d), (by dsimp only; omega), (by show N - (i + 1) < N - i; omega), ?_⟩
      try simp only [keepL, setAll, push_cast, Nat.reduceAdd, Nat.reduceMul, Nat.reduceSub, Nat.reduceLeDiff, Nat.reduceLT, Nat.reduceEqDiff, Nat.reduceBEq, Nat.reduceBNe, Nat.reduceMod, Nat.reduceDiv, Int.reduceLE, Int.reduceLT, Int.reduceToNat, Int.reduceAdd, Int.reduceSub, Int.reduceMul, Int.reduceNeg, Int.reduceEq, Int.reduceBEq, Int.reduceBNe, ↓reduceIte, reduceCtorEq, String.reduceBNe, String.reduceEq, reduceDIte, Nat.reducePow, zN, z0, z2, z4, z5, z6, zw, z7, z8, z9, u3, hc0, u4, x1, x2, x3, x4, x5, y1, y2, y3, y4, y5, y6]
      exact Weak.same (by simp only [Keeps, Tm.get_cons, Nat.reduceEqDiff, ↓reduceIte, if_true, if_false, ite_true, ite_false, true_and, and_true, and_self, reduceCtorEq]) (by first | rfl | simp only [Keeps, Tm.get_cons, Nat.reduceEqDiff, ↓reduceIte, if_true, if_false, ite_true, ite_false, true_and, and_true, and_self, reduceCtorEq])
    · have y6 : (((e : Int) : Int) == 46) = true := by (rw [show ((e : Int) : Int) = 46 by omega]; exact beq_self_eq_true _)
      have y7 : (((d : Int) : Int) == (N : Int)) = true := by (rw [show ((d : Int) : Int) = (N : Int) by omega]; exact beq_self_eq_true _)
      refine AW.skip ?_
      refine Thn_n ?_
      refine hK _ _ ?_
      clear hK K
      refine AW.seq_k fun K hK => ?_
      refine AW.block ?_
      refine AW.seq_k fun K hK => ?_
      refine AW.region (by decide) ?_
      simp only [push_cast, Nat.reduceAdd, Nat.reduceMul, Nat.reduceSub, Nat.reduceLeDiff, Nat.reduceLT, Nat.reduceEqDiff, Nat.reduceBEq, Nat.reduceBNe, Nat.reduceMod, Nat.reduceDiv, Int.reduceLE, Int.reduceLT, Int.reduceToNat, Int.reduceAdd, Int.reduceSub, Int.reduceMul, Int.reduceNeg, Int.reduceEq, Int.reduceBEq, Int.reduceBNe, ↓reduceIte, reduceCtorEq, String.reduceBNe, String.reduceEq, reduceDIte, Nat.reducePow, zN, z0, z2, z4, z5, z6, zw, z7, z8, z9, u3, hc0, u4, x1, x2, x3, x4, x5, y1, y2, y3, y4, y5, y6, y7]
      refine Thn_n ?_
      refine hK _ _ ?_
      clear hK K
      refine AW.cond_t rfl ?_
      refine AW.region (by decide) ?_
      simp only [push_cast, Nat.reduceAdd, Nat.reduceMul, Nat.reduceSub, Nat.reduceLeDiff, Nat.reduceLT, Nat.reduceEqDiff, Nat.reduceBEq, Nat.reduceBNe, Nat.reduceMod, Nat.reduceDiv, Int.reduceLE, Int.reduceLT, Int.reduceToNat, Int.reduceAdd, Int.reduceSub, Int.reduceMul, Int.reduceNeg, Int.reduceEq, Int.reduceBEq, Int.reduceBNe, ↓reduceIte, reduceCtorEq, String.reduceBNe, String.reduceEq, reduceDIte, Nat.reducePow, zN, z0, z2, z4, z5, z6, zw, z7, z8, z9, u3, hc0, u4, x1, x2, x3, x4, x5, y1, y2, y3, y4, y5, y6, y7]
      refine InB_n ?_
      refine Thn_n ?_
      refine hK _ _ ?_
      clear hK K
      refine AW.region (by decide) ?_
      simp only [push_cast, Nat.reduceAdd, Nat.reduceMul, Nat.reduceSub, Nat.reduceLeDiff, Nat.reduceLT, Nat.reduceEqDiff, Nat.reduceBEq, Nat.reduceBNe, Nat.reduceMod, Nat.reduceDiv, Int.reduceLE, Int.reduceLT, Int.reduceToNat, Int.reduceAdd, Int.reduceSub, Int.reduceMul, Int.reduceNeg, Int.reduceEq, Int.reduceBEq, Int.reduceBNe, ↓reduceIte, reduceCtorEq, String.reduceBNe, String.reduceEq, reduceDIte, Nat.reducePow, zN, z0, z2, z4, z5, z6, zw, z7, z8, z9, u3, hc0, u4, x1, x2, x3, x4, x5, y1, y2, y3, y4, y5, y6, y7]
      refine Thn_n ?_
      refine ⟨(i + 1, i), (by dsimp only; omega), (by show N - (i + 1) < N - i; omega), ?_⟩
      try simp only [keepL, setAll, push_cast, Nat.reduceAdd, Nat.reduceMul, Nat.reduceSub, Nat.reduceLeDiff, Nat.reduceLT, Nat.reduceEqDiff, Nat.reduceBEq, Nat.reduceBNe, Nat.reduceMod, Nat.reduceDiv, Int.reduceLE, Int.reduceLT, Int.reduceToNat, Int.reduceAdd, Int.reduceSub, Int.reduceMul, Int.reduceNeg, Int.reduceEq, Int.reduceBEq, Int.reduceBNe, ↓reduceIte, reduceCtorEq, String.reduceBNe, String.reduceEq, reduceDIte, Nat.reducePow, zN, z0, z2, z4, z5, z6, zw, z7, z8, z9, u3, hc0, u4, x1, x2, x3, x4, x5, y1, y2, y3, y4, y5, y6, y7]
      exact Weak.same (by simp only [Keeps, Tm.get_cons, Nat.reduceEqDiff, ↓reduceIte, if_true, if_false, ite_true, ite_false, true_and, and_true, and_self, reduceCtorEq]) (by first | rfl | simp only [Keeps, Tm.get_cons, Nat.reduceEqDiff, ↓reduceIte, if_true, if_false, ite_true, ite_false, true_and, and_true, and_self, reduceCtorEq])
  · have hge : ¬ i < N := by have := of_decide_eq_false h26; omega
    have hdd : d = dp := by omega
    refine AW.exit ?_
    refine Thn_e ?_
    clear hK K
    refine Thn_e ?_
    refine InB_here ?_
    refine Thn_n ?_
    refine hK _ _ ?_
    clear hK K
    refine AW.seq_k fun K hK => ?_
    refine AW.seq_k fun K hK => ?_
    refine AW.region (by decide) ?_
    simp only [push_cast, Nat.reduceAdd, Nat.reduceMul, Nat.reduceSub, Nat.reduceLeDiff, Nat.reduceLT, Nat.reduceEqDiff, Nat.reduceBEq, Nat.reduceBNe, Nat.reduceMod, Nat.reduceDiv, Int.reduceLE, Int.reduceLT, Int.reduceToNat, Int.reduceAdd, Int.reduceSub, Int.reduceMul, Int.reduceNeg, Int.reduceEq, Int.reduceBEq, Int.reduceBNe, ↓reduceIte, reduceCtorEq, String.reduceBNe, String.reduceEq, reduceDIte, Nat.reducePow, zN, z0, z2, z4, z5, z6, zw, z7, z8, z9, u3, hc0, u4, x1, x2, x3, x4, x5, hdd]
    refine Thn_n ?_
    refine hK _ _ ?_
    clear hK K
    refine AW.cond_f rfl ?_
    refine AW.skip ?_
    refine Thn_n ?_
    refine hK _ _ ?_
    clear hK K
    refine AW.seq_k fun K hK => ?_
    refine AW.region (by decide) ?_
    simp only [push_cast, Nat.reduceAdd, Nat.reduceMul, Nat.reduceSub, Nat.reduceLeDiff, Nat.reduceLT, Nat.reduceEqDiff, Nat.reduceBEq, Nat.reduceBNe, Nat.reduceMod, Nat.reduceDiv, Int.reduceLE, Int.reduceLT, Int.reduceToNat, Int.reduceAdd, Int.reduceSub, Int.reduceMul, Int.reduceNeg, Int.reduceEq, Int.reduceBEq, Int.reduceBNe, ↓reduceIte, reduceCtorEq, String.reduceBNe, String.reduceEq, reduceDIte, Nat.reducePow, zN, z0, z2, z4, z5, z6, zw, z7, z8, z9, u3, hc0, u4, x1, x2, x3, x4, x5, hdd]
    refine Thn_n ?_
    refine hK _ _ ?_
    clear hK K
    refine AW.seq_k fun K hK => ?_
    refine AW.seq_k fun K hK => ?_
    refine AW.region (by decide) ?_
    simp only [push_cast, Nat.reduceAdd, Nat.reduceMul, Nat.reduceSub, Nat.reduceLeDiff, Nat.reduceLT, Nat.reduceEqDiff, Nat.reduceBEq, Nat.reduceBNe, Nat.reduceMod, Nat.reduceDiv, Int.reduceLE, Int.reduceLT, Int.reduceToNat, Int.reduceAdd, Int.reduceSub, Int.reduceMul, Int.reduceNeg, Int.reduceEq, Int.reduceBEq, Int.reduceBNe, ↓reduceIte, reduceCtorEq, String.reduceBNe, String.reduceEq, reduceDIte, Nat.reducePow, zN, z0, z2, z4, z5, z6, zw, z7, z8, z9, u3, hc0, u4, x1, x2, x3, x4, x5, hdd]
    refine Thn_n ?_
    refine hK _ _ ?_
    clear hK K
    refine AW.block ?_
    refine AW.loopK [0, 4, 5] (fun i2 => 1 ≤ i2 ∧ i2 ≤ dp) (fun i2 => [(7, .one (.int .i64 (nv i2 : Int))), (8, .one (.int .i64 (i2 : Int)))]) (fun i2 => []) (fun i2 => dp - i2) 1 (by omega) ?_ ?_ fun i2 hi20 => ?_
    · first | rfl | (simp only [Keeps, Tm.get_cons, Nat.reduceEqDiff, ↓reduceIte, if_true, if_false, ite_true, ite_false, true_and, and_true, and_self, reduceCtorEq, hn0] <;> first | rfl | exact ⟨rfl, rfl⟩)
    · first | rfl | (simp only [setAll, push_cast, Nat.reduceAdd, Nat.reduceMul, Nat.reduceSub, Nat.reduceLeDiff, Nat.reduceLT, Nat.reduceEqDiff, Nat.reduceBEq, Nat.reduceBNe, Nat.reduceMod, Nat.reduceDiv, Int.reduceLE, Int.reduceLT, Int.reduceToNat, Int.reduceAdd, Int.reduceSub, Int.reduceMul, Int.reduceNeg, Int.reduceEq, Int.reduceBEq, Int.reduceBNe, ↓reduceIte, reduceCtorEq, String.reduceBNe, String.reduceEq, reduceDIte, Nat.reducePow, zN, z0, z2, z4, z5, z6, zw, z7, z8, z9, u3, hc0, u4, x1, x2, x3, x4, x5, hdd] <;> rfl)
    have hI2 := hi20
    try simp only [keepL, setAll, push_cast, Nat.reduceAdd, Nat.reduceMul, Nat.reduceSub, Nat.reduceLeDiff, Nat.reduceLT, Nat.reduceEqDiff, Nat.reduceBEq, Nat.reduceBNe, Nat.reduceMod, Nat.reduceDiv, Int.reduceLE, Int.reduceLT, Int.reduceToNat, Int.reduceAdd, Int.reduceSub, Int.reduceMul, Int.reduceNeg, Int.reduceEq, Int.reduceBEq, Int.reduceBNe, ↓reduceIte, reduceCtorEq, String.reduceBNe, String.reduceEq, reduceDIte, Nat.reducePow, zN, z0, z2, z4, z5, z6, zw, z7, z8, z9, u3, hc0, u4, x1, x2, x3, x4, x5, hdd]
    refine AW.seq_k fun K hK => ?_
    refine AW.seq_k fun K hK => ?_
    refine AW.region (by decide) ?_
    simp only [push_cast, Nat.reduceAdd, Nat.reduceMul, Nat.reduceSub, Nat.reduceLeDiff, Nat.reduceLT, Nat.reduceEqDiff, Nat.reduceBEq, Nat.reduceBNe, Nat.reduceMod, Nat.reduceDiv, Int.reduceLE, Int.reduceLT, Int.reduceToNat, Int.reduceAdd, Int.reduceSub, Int.reduceMul, Int.reduceNeg, Int.reduceEq, Int.reduceBEq, Int.reduceBNe, ↓reduceIte, reduceCtorEq, String.reduceBNe, String.reduceEq, reduceDIte, Nat.reducePow, zN, z0, z2, z4, z5, z6, zw, z7, z8, z9, u3, hc0, u4, x1, x2, x3, x4, x5, hdd]
    refine Thn_n ?_
    refine hK _ _ ?_
    clear hK K
    refine AW.cond rfl (fun h59 => ?_) (fun h59 => ?_)
    · have hlt : i2 < dp := by have := of_decide_eq_true h59; omega
      obtain ⟨e, he⟩ : ∃ e, e = (atB t i2).toNat := ⟨_, rfl⟩
      have y1 : (0 : Int) ≤ (i2 : Int) := by omega
      have y2 : ((i2 : Int)).toNat = i2 := Int.toNat_natCast _
      have y3 : t[i2]? = some (atB t i2) := atB_get (by omega)
      have y4 : (atB t i2).toNat = e := he.symm
      have y5 : IntKind.i64.wrap ((i2 : Int) + 1) = (i2 : Int) + 1 := wi (by omega)
      have hs := hst i2 hI2.1 hlt
      have hb1 := hnb i2 (by omega)
      have hb2 := hnb (i2 + 1) (by omega)
      obtain ⟨n0, hn0'⟩ : ∃ n0, n0 = nv i2 := ⟨_, rfl⟩
      obtain ⟨n1, hn1⟩ : ∃ n1, n1 = nv (i2 + 1) := ⟨_, rfl⟩
      rw [← hn0', ← hn1, ← he] at hs
      rw [← hn0'] at hb1
      rw [← hn1] at hb2
      obtain ⟨c, hc⟩ : ∃ c, c = e - 48 := ⟨_, rfl⟩
      have y6 : decide ((e : Int) < 48) = false := decide_eq_false (by omega)
      have y7 : decide ((57 : Int) < (e : Int)) = false := decide_eq_false (by omega)
      have y8 : IntKind.i64.wrap ((n0 : Int) * 10) = (n0 : Int) * 10 := wi (by omega)
      have y9 : IntKind.u8.wrap ((e : Int) - 48) = (c : Int) := by rw [wu8 (by omega)]; omega
      have ya : IntKind.i64.wrap (c : Int) = (c : Int) := wi (by omega)
      have yb : IntKind.i64.wrap ((n0 : Int) * 10 + (c : Int)) = (n1 : Int) := by rw [wi (by omega)]; omega
      refine AW.skip ?_
      refine Thn_n ?_
      refine hK _ _ ?_
      clear hK K
      refine AW.seq_k fun K hK => ?_
      refine AW.block ?_
      refine AW.seq_k fun K hK => ?_
      refine AW.seq_k fun K hK => ?_
      refine AW.region (by decide) ?_
      simp only [push_cast, Nat.reduceAdd, Nat.reduceMul, Nat.reduceSub, Nat.reduceLeDiff, Nat.reduceLT, Nat.reduceEqDiff, Nat.reduceBEq, Nat.reduceBNe, Nat.reduceMod, Nat.reduceDiv, Int.reduceLE, Int.reduceLT, Int.reduceToNat, Int.reduceAdd, Int.reduceSub, Int.reduceMul, Int.reduceNeg, Int.reduceEq, Int.reduceBEq, Int.reduceBNe, ↓reduceIte, reduceCtorEq, String.reduceBNe, String.reduceEq, reduceDIte, Nat.reducePow, zN, z0, z2, z4, z5, z6, zw, z7, z8, z9, u3, hc0, u4, x1, x2, x3, x4, x5, hdd, y1, y2, y3, y4, y5, y6, y7, y8, y9, ya, yb, ← hn0', ← hn1]
      refine Thn_n ?_
      refine hK _ _ ?_
      clear hK K
      refine AW.cond_f rfl ?_
      refine AW.skip ?_
      refine Thn_n ?_
      refine hK _ _ ?_
      clear hK K
      refine AW.region (by decide) ?_
      simp only [push_cast, Nat.reduceAdd, Nat.reduceMul, Nat.reduceSub, Nat.reduceLeDiff, Nat.reduceLT, Nat.reduceEqDiff, Nat.reduceBEq, Nat.reduceBNe, Nat.reduceMod, Nat.reduceDiv, Int.reduceLE, Int.reduceLT, Int.reduceToNat, Int.reduceAdd, Int.reduceSub, Int.reduceMul, Int.reduceNeg, Int.reduceEq, Int.reduceBEq, Int.reduceBNe, ↓reduceIte, reduceCtorEq, String.reduceBNe, String.reduceEq, reduceDIte, Nat.reducePow, zN, z0, z2, z4, z5, z6, zw, z7, z8, z9, u3, hc0, u4, x1, x2, x3, x4, x5, hdd, y1, y2, y3, y4, y5, y6, y7, y8, y9, ya, yb, ← hn0', ← hn1]
      refine InB_n ?_
      refine Thn_n ?_
      refine hK _ _ ?_
      clear hK K
      refine AW.region (by decide) ?_
      simp only [push_cast, Nat.reduceAdd, Nat.reduceMul, Nat.reduceSub, Nat.reduceLeDiff, Nat.reduceLT, Nat.reduceEqDiff, Nat.reduceBEq, Nat.reduceBNe, Nat.reduceMod, Nat.reduceDiv, Int.reduceLE, Int.reduceLT, Int.reduceToNat, Int.reduceAdd, Int.reduceSub, Int.reduceMul, Int.reduceNeg, Int.reduceEq, Int.reduceBEq, Int.reduceBNe, ↓reduceIte, reduceCtorEq, String.reduceBNe, String.reduceEq, reduceDIte, Nat.reducePow, zN, z0, z2, z4, z5, z6, zw, z7, z8, z9, u3, hc0, u4, x1, x2, x3, x4, x5, hdd, y1, y2, y3, y4, y5, y6, y7, y8, y9, ya, yb, ← hn0', ← hn1]
      refine Thn_n ?_
      refine ⟨i2 + 1, (by omega), (by omega), ?_⟩
      try simp only [keepL, setAll, push_cast, Nat.reduceAdd, Nat.reduceMul, Nat.reduceSub, Nat.reduceLeDiff, Nat.reduceLT, Nat.reduceEqDiff, Nat.reduceBEq, Nat.reduceBNe, Nat.reduceMod, Nat.reduceDiv, Int.reduceLE, Int.reduceLT, Int.reduceToNat, Int.reduceAdd, Int.reduceSub, Int.reduceMul, Int.reduceNeg, Int.reduceEq, Int.reduceBEq, Int.reduceBNe, ↓reduceIte, reduceCtorEq, String.reduceBNe, String.reduceEq, reduceDIte, Nat.reducePow, zN, z0, z2, z4, z5, z6, zw, z7, z8, z9, u3, hc0, u4, x1, x2, x3, x4, x5, hdd, y1, y2, y3, y4, y5, y6, y7, y8, y9, ya, yb, ← hn0', ← hn1]
      exact Weak.same (by simp only [Keeps, Tm.get_cons, Nat.reduceEqDiff, ↓reduceIte, if_true, if_false, ite_true, ite_false, true_and, and_true, and_self, reduceCtorEq]) (by first | rfl | simp only [Keeps, Tm.get_cons, Nat.reduceEqDiff, ↓reduceIte, if_true, if_false, ite_true, ite_false, true_and, and_true, and_self, reduceCtorEq])
    · have hi2 : i2 = dp := by have := of_decide_eq_false h59; omega
      refine AW.exit ?_
      refine Thn_e ?_
      clear hK K
      refine Thn_e ?_
      refine InB_here ?_
      refine Thn_n ?_
      refine hK _ _ ?_
      clear hK K
      refine AW.seq_k fun K hK => ?_
      refine AW.region (by decide) ?_
      simp only [push_cast, Nat.reduceAdd, Nat.reduceMul, Nat.reduceSub, Nat.reduceLeDiff, Nat.reduceLT, Nat.reduceEqDiff, Nat.reduceBEq, Nat.reduceBNe, Nat.reduceMod, Nat.reduceDiv, Int.reduceLE, Int.reduceLT, Int.reduceToNat, Int.reduceAdd, Int.reduceSub, Int.reduceMul, Int.reduceNeg, Int.reduceEq, Int.reduceBEq, Int.reduceBNe, ↓reduceIte, reduceCtorEq, String.reduceBNe, String.reduceEq, reduceDIte, Nat.reducePow, zN, z0, z2, z4, z5, z6, zw, z7, z8, z9, u3, hc0, u4, x1, x2, x3, x4, x5, hdd, hi2, hnq]
      refine Thn_n ?_
      refine hK _ _ ?_
      clear hK K
      refine AW.seq_k fun K hK => ?_
      refine AW.seq_k fun K hK => ?_
      refine AW.region (by decide) ?_
      simp only [push_cast, Nat.reduceAdd, Nat.reduceMul, Nat.reduceSub, Nat.reduceLeDiff, Nat.reduceLT, Nat.reduceEqDiff, Nat.reduceBEq, Nat.reduceBNe, Nat.reduceMod, Nat.reduceDiv, Int.reduceLE, Int.reduceLT, Int.reduceToNat, Int.reduceAdd, Int.reduceSub, Int.reduceMul, Int.reduceNeg, Int.reduceEq, Int.reduceBEq, Int.reduceBNe, ↓reduceIte, reduceCtorEq, String.reduceBNe, String.reduceEq, reduceDIte, Nat.reducePow, zN, z0, z2, z4, z5, z6, zw, z7, z8, z9, u3, hc0, u4, x1, x2, x3, x4, x5, hdd, hi2, hnq]
      refine Thn_n ?_
      refine hK _ _ ?_
      clear hK K
      refine AW.block ?_
      refine AW.loopK [0, 4, 5, 7] (fun k => k ≤ N) (fun k => [(9, .one (.int .i64 (rm r (k - (dp + 1)) : Int))), (10, .one (.int .i64 ((k : Int) - 1)))]) (fun k => []) (fun k => k) N (Nat.le_refl _) ?_ ?_ fun k hi29 => ?_
      · first | rfl | (simp only [Keeps, Tm.get_cons, Nat.reduceEqDiff, ↓reduceIte, if_true, if_false, ite_true, ite_false, true_and, and_true, and_self, reduceCtorEq, hR0] <;> first | rfl | exact ⟨rfl, rfl⟩)
      · first | rfl | (simp only [setAll, push_cast, Nat.reduceAdd, Nat.reduceMul, Nat.reduceSub, Nat.reduceLeDiff, Nat.reduceLT, Nat.reduceEqDiff, Nat.reduceBEq, Nat.reduceBNe, Nat.reduceMod, Nat.reduceDiv, Int.reduceLE, Int.reduceLT, Int.reduceToNat, Int.reduceAdd, Int.reduceSub, Int.reduceMul, Int.reduceNeg, Int.reduceEq, Int.reduceBEq, Int.reduceBNe, ↓reduceIte, reduceCtorEq, String.reduceBNe, String.reduceEq, reduceDIte, Nat.reducePow, zN, z0, z2, z4, z5, z6, zw, z7, z8, z9, u3, hc0, u4, x1, x2, x3, x4, x5, hdd, hi2, hnq] <;> rfl)
      have hkN := hi29
      try simp only [keepL, setAll, push_cast, Nat.reduceAdd, Nat.reduceMul, Nat.reduceSub, Nat.reduceLeDiff, Nat.reduceLT, Nat.reduceEqDiff, Nat.reduceBEq, Nat.reduceBNe, Nat.reduceMod, Nat.reduceDiv, Int.reduceLE, Int.reduceLT, Int.reduceToNat, Int.reduceAdd, Int.reduceSub, Int.reduceMul, Int.reduceNeg, Int.reduceEq, Int.reduceBEq, Int.reduceBNe, ↓reduceIte, reduceCtorEq, String.reduceBNe, String.reduceEq, reduceDIte, Nat.reducePow, zN, z0, z2, z4, z5, z6, zw, z7, z8, z9, u3, hc0, u4, x1, x2, x3, x4, x5, hdd, hi2, hnq]
      refine AW.seq_k fun K hK => ?_
      refine AW.seq_k fun K hK => ?_
      refine AW.region (by decide) ?_
      simp only [push_cast, Nat.reduceAdd, Nat.reduceMul, Nat.reduceSub, Nat.reduceLeDiff, Nat.reduceLT, Nat.reduceEqDiff, Nat.reduceBEq, Nat.reduceBNe, Nat.reduceMod, Nat.reduceDiv, Int.reduceLE, Int.reduceLT, Int.reduceToNat, Int.reduceAdd, Int.reduceSub, Int.reduceMul, Int.reduceNeg, Int.reduceEq, Int.reduceBEq, Int.reduceBNe, ↓reduceIte, reduceCtorEq, String.reduceBNe, String.reduceEq, reduceDIte, Nat.reducePow, zN, z0, z2, z4, z5, z6, zw, z7, z8, z9, u3, hc0, u4, x1, x2, x3, x4, x5, hdd, hi2, hnq]
      refine Thn_n ?_
      refine hK _ _ ?_
      clear hK K
      refine AW.cond rfl (fun h85 => ?_) (fun h85 => ?_)
      · obtain ⟨j, hj⟩ : ∃ j, k = dp + 1 + (j + 1) := ⟨k - (dp + 1) - 1, by have := of_decide_eq_true h85; omega⟩
        obtain ⟨w, hw⟩ : ∃ w, w = dp + 1 + j := ⟨_, rfl⟩
        have y0 : (k : Int) - 1 = (w : Int) := by omega
        obtain ⟨e, he⟩ : ∃ e, e = (atB t w).toNat := ⟨_, rfl⟩
        have y1 : (0 : Int) ≤ (w : Int) := by omega
        have y2 : ((w : Int)).toNat = w := Int.toNat_natCast _
        have y3 : t[w]? = some (atB t w) := atB_get (by omega)
        have y4 : (atB t w).toNat = e := he.symm
        obtain ⟨d', hd'⟩ : ∃ d', d' = rm r j * 10 / 65536 := ⟨_, rfl⟩
        obtain ⟨x0, hx0⟩ : ∃ x0, x0 = rm r j := ⟨_, rfl⟩
        obtain ⟨v1, hx1⟩ : ∃ v1, v1 = rm r (j + 1) := ⟨_, rfl⟩
        have f1 : rm r (k - (dp + 1)) = v1 := by rw [hx1, show k - (dp + 1) = j + 1 by omega]
        have f0 : rm r (w - (dp + 1)) = x0 := by rw [hx0, show w - (dp + 1) = j by omega]
        have hst' := rm_step r j
        rw [← hx0, ← hx1] at hst'
        have hx65 := rm_lt hr j
        rw [← hx0] at hx65 hd'
        rw [← hd'] at hst'
        have hd10 : d' < 10 := by omega
        have hjL : j < L := by omega
        have he2 : e = 48 + d' := by rw [he, hw, htl j hjL, ← hx0, ← hd']; exact dgt_val hd10
        have y5 : IntKind.u8.wrap ((e : Int) - 48) = (d' : Int) := by rw [wu8 (by omega)]; omega
        have y6 : decide ((e : Int) < 48) = false := decide_eq_false (by omega)
        have y7 : decide ((57 : Int) < (e : Int)) = false := decide_eq_false (by omega)
        have y8 : IntKind.i64.wrap (d' : Int) = (d' : Int) := wi (by omega)
        have y9 : IntKind.i64.wrap ((d' : Int) * 65536) = (d' : Int) * 65536 := wi (by omega)
        have ya : IntKind.i64.wrap ((v1 : Int) + (d' : Int) * 65536) = (x0 : Int) * 10 := by rw [wi (by omega)]; omega
        have yc : ((x0 : Int) * 10).tdiv 10 = (x0 : Int) := by rw [Int.tdiv_eq_ediv_of_nonneg (by omega)]; omega
        have yd : IntKind.i64.wrap (x0 : Int) = (x0 : Int) := wi (by omega)
        have ye : IntKind.i64.wrap ((w : Int) - 1) = (w : Int) - 1 := wi (by omega)
        refine AW.skip ?_
        refine Thn_n ?_
        refine hK _ _ ?_
        clear hK K
        refine AW.seq_k fun K hK => ?_
        refine AW.block ?_
        refine AW.seq_k fun K hK => ?_
        refine AW.seq_k fun K hK => ?_
        refine AW.region (by decide) ?_
        simp only [push_cast, Nat.reduceAdd, Nat.reduceMul, Nat.reduceSub, Nat.reduceLeDiff, Nat.reduceLT, Nat.reduceEqDiff, Nat.reduceBEq, Nat.reduceBNe, Nat.reduceMod, Nat.reduceDiv, Int.reduceLE, Int.reduceLT, Int.reduceToNat, Int.reduceAdd, Int.reduceSub, Int.reduceMul, Int.reduceNeg, Int.reduceEq, Int.reduceBEq, Int.reduceBNe, ↓reduceIte, reduceCtorEq, String.reduceBNe, String.reduceEq, reduceDIte, Nat.reducePow, zN, z0, z2, z4, z5, z6, zw, z7, z8, z9, u3, hc0, u4, x1, x2, x3, x4, x5, hdd, hi2, hnq, y0, y1, y2, y3, y4, y5, y6, y7, y8, y9, ya, yc, yd, ye, f0, f1]
        refine Thn_n ?_
        refine hK _ _ ?_
        clear hK K
        refine AW.cond_f rfl ?_
        refine AW.skip ?_
        refine Thn_n ?_
        refine hK _ _ ?_
        clear hK K
        refine AW.region (by decide) ?_
        simp only [push_cast, Nat.reduceAdd, Nat.reduceMul, Nat.reduceSub, Nat.reduceLeDiff, Nat.reduceLT, Nat.reduceEqDiff, Nat.reduceBEq, Nat.reduceBNe, Nat.reduceMod, Nat.reduceDiv, Int.reduceLE, Int.reduceLT, Int.reduceToNat, Int.reduceAdd, Int.reduceSub, Int.reduceMul, Int.reduceNeg, Int.reduceEq, Int.reduceBEq, Int.reduceBNe, ↓reduceIte, reduceCtorEq, String.reduceBNe, String.reduceEq, reduceDIte, Nat.reducePow, zN, z0, z2, z4, z5, z6, zw, z7, z8, z9, u3, hc0, u4, x1, x2, x3, x4, x5, hdd, hi2, hnq, y0, y1, y2, y3, y4, y5, y6, y7, y8, y9, ya, yc, yd, ye, f0, f1]
        refine InB_n ?_
        refine Thn_n ?_
        refine hK _ _ ?_
        clear hK K
        refine AW.region (by decide) ?_
        simp only [push_cast, Nat.reduceAdd, Nat.reduceMul, Nat.reduceSub, Nat.reduceLeDiff, Nat.reduceLT, Nat.reduceEqDiff, Nat.reduceBEq, Nat.reduceBNe, Nat.reduceMod, Nat.reduceDiv, Int.reduceLE, Int.reduceLT, Int.reduceToNat, Int.reduceAdd, Int.reduceSub, Int.reduceMul, Int.reduceNeg, Int.reduceEq, Int.reduceBEq, Int.reduceBNe, ↓reduceIte, reduceCtorEq, String.reduceBNe, String.reduceEq, reduceDIte, Nat.reducePow, zN, z0, z2, z4, z5, z6, zw, z7, z8, z9, u3, hc0, u4, x1, x2, x3, x4, x5, hdd, hi2, hnq, y0, y1, y2, y3, y4, y5, y6, y7, y8, y9, ya, yc, yd, ye, f0, f1]
        refine Thn_n ?_
        refine ⟨w, (by omega), (by omega), ?_⟩
        try simp only [keepL, setAll, push_cast, Nat.reduceAdd, Nat.reduceMul, Nat.reduceSub, Nat.reduceLeDiff, Nat.reduceLT, Nat.reduceEqDiff, Nat.reduceBEq, Nat.reduceBNe, Nat.reduceMod, Nat.reduceDiv, Int.reduceLE, Int.reduceLT, Int.reduceToNat, Int.reduceAdd, Int.reduceSub, Int.reduceMul, Int.reduceNeg, Int.reduceEq, Int.reduceBEq, Int.reduceBNe, ↓reduceIte, reduceCtorEq, String.reduceBNe, String.reduceEq, reduceDIte, Nat.reducePow, zN, z0, z2, z4, z5, z6, zw, z7, z8, z9, u3, hc0, u4, x1, x2, x3, x4, x5, hdd, hi2, hnq, y0, y1, y2, y3, y4, y5, y6, y7, y8, y9, ya, yc, yd, ye, f0, f1]
        exact Weak.same (by simp only [Keeps, Tm.get_cons, Nat.reduceEqDiff, ↓reduceIte, if_true, if_false, ite_true, ite_false, true_and, and_true, and_self, reduceCtorEq]) (by first | rfl | simp only [Keeps, Tm.get_cons, Nat.reduceEqDiff, ↓reduceIte, if_true, if_false, ite_true, ite_false, true_and, and_true, and_self, reduceCtorEq])
      · have hkr : rm r (k - (dp + 1)) = r := by have := of_decide_eq_false h85; rw [show k - (dp + 1) = 0 by omega]; rfl
        refine AW.exit ?_
        refine Thn_e ?_
        clear hK K
        refine Thn_e ?_
        refine InB_here ?_
        refine Thn_n ?_
        refine hK _ _ ?_
        clear hK K
        refine AW.seq_k fun K hK => ?_
        refine AW.region (by decide) ?_
        simp only [push_cast, Nat.reduceAdd, Nat.reduceMul, Nat.reduceSub, Nat.reduceLeDiff, Nat.reduceLT, Nat.reduceEqDiff, Nat.reduceBEq, Nat.reduceBNe, Nat.reduceMod, Nat.reduceDiv, Int.reduceLE, Int.reduceLT, Int.reduceToNat, Int.reduceAdd, Int.reduceSub, Int.reduceMul, Int.reduceNeg, Int.reduceEq, Int.reduceBEq, Int.reduceBNe, ↓reduceIte, reduceCtorEq, String.reduceBNe, String.reduceEq, reduceDIte, Nat.reducePow, zN, z0, z2, z4, z5, z6, zw, z7, z8, z9, u3, hc0, u4, x1, x2, x3, x4, x5, hdd, hi2, hnq, hkr]
        refine Thn_n ?_
        refine hK _ _ ?_
        clear hK K
        refine AW.seq_k fun K hK => ?_
        refine AW.seq_k fun K hK => ?_
        refine AW.region (by decide) ?_
        simp only [push_cast, Nat.reduceAdd, Nat.reduceMul, Nat.reduceSub, Nat.reduceLeDiff, Nat.reduceLT, Nat.reduceEqDiff, Nat.reduceBEq, Nat.reduceBNe, Nat.reduceMod, Nat.reduceDiv, Int.reduceLE, Int.reduceLT, Int.reduceToNat, Int.reduceAdd, Int.reduceSub, Int.reduceMul, Int.reduceNeg, Int.reduceEq, Int.reduceBEq, Int.reduceBNe, ↓reduceIte, reduceCtorEq, String.reduceBNe, String.reduceEq, reduceDIte, Nat.reducePow, zN, z0, z2, z4, z5, z6, zw, z7, z8, z9, u3, hc0, u4, x1, x2, x3, x4, x5, hdd, hi2, hnq, hkr]
        refine Thn_n ?_
        refine hK _ _ ?_
        clear hK K
        refine AW.cond_t rfl ?_
        refine AW.region (by decide) ?_
        simp only [push_cast, Nat.reduceAdd, Nat.reduceMul, Nat.reduceSub, Nat.reduceLeDiff, Nat.reduceLT, Nat.reduceEqDiff, Nat.reduceBEq, Nat.reduceBNe, Nat.reduceMod, Nat.reduceDiv, Int.reduceLE, Int.reduceLT, Int.reduceToNat, Int.reduceAdd, Int.reduceSub, Int.reduceMul, Int.reduceNeg, Int.reduceEq, Int.reduceBEq, Int.reduceBNe, ↓reduceIte, reduceCtorEq, String.reduceBNe, String.reduceEq, reduceDIte, Nat.reducePow, zN, z0, z2, z4, z5, z6, zw, z7, z8, z9, u3, hc0, u4, x1, x2, x3, x4, x5, hdd, hi2, hnq, hkr]
        refine Thn_n ?_
        refine hK _ _ ?_
        clear hK K
        refine AW.seq_k fun K hK => ?_
        refine AW.seq_k fun K hK => ?_
        refine AW.region (by decide) ?_
        simp only [push_cast, Nat.reduceAdd, Nat.reduceMul, Nat.reduceSub, Nat.reduceLeDiff, Nat.reduceLT, Nat.reduceEqDiff, Nat.reduceBEq, Nat.reduceBNe, Nat.reduceMod, Nat.reduceDiv, Int.reduceLE, Int.reduceLT, Int.reduceToNat, Int.reduceAdd, Int.reduceSub, Int.reduceMul, Int.reduceNeg, Int.reduceEq, Int.reduceBEq, Int.reduceBNe, ↓reduceIte, reduceCtorEq, String.reduceBNe, String.reduceEq, reduceDIte, Nat.reducePow, zN, z0, z2, z4, z5, z6, zw, z7, z8, z9, u3, hc0, u4, x1, x2, x3, x4, x5, hdd, hi2, hnq, hkr]
        refine CThen.by (hTx) ?_
        simp only [push_cast, Nat.reduceAdd, Nat.reduceMul, Nat.reduceSub, Nat.reduceLeDiff, Nat.reduceLT, Nat.reduceEqDiff, Nat.reduceBEq, Nat.reduceBNe, Nat.reduceMod, Nat.reduceDiv, Int.reduceLE, Int.reduceLT, Int.reduceToNat, Int.reduceAdd, Int.reduceSub, Int.reduceMul, Int.reduceNeg, Int.reduceEq, Int.reduceBEq, Int.reduceBNe, ↓reduceIte, reduceCtorEq, String.reduceBNe, String.reduceEq, reduceDIte, Nat.reducePow, zN, z0, z2, z4, z5, z6, zw, z7, z8, z9, u3, hc0, u4, x1, x2, x3, x4, x5, hdd, hi2, hnq, hkr]
        refine Thn_n ?_
        refine hK _ _ ?_
        clear hK K
        refine AW.cond_f rfl ?_
        refine AW.skip ?_
        refine Thn_n ?_
        refine hK _ _ ?_
        clear hK K
        refine AW.seq_k fun K hK => ?_
        refine AW.region (by decide) ?_
        simp only [push_cast, Nat.reduceAdd, Nat.reduceMul, Nat.reduceSub, Nat.reduceLeDiff, Nat.reduceLT, Nat.reduceEqDiff, Nat.reduceBEq, Nat.reduceBNe, Nat.reduceMod, Nat.reduceDiv, Int.reduceLE, Int.reduceLT, Int.reduceToNat, Int.reduceAdd, Int.reduceSub, Int.reduceMul, Int.reduceNeg, Int.reduceEq, Int.reduceBEq, Int.reduceBNe, ↓reduceIte, reduceCtorEq, String.reduceBNe, String.reduceEq, reduceDIte, Nat.reducePow, zN, z0, z2, z4, z5, z6, zw, z7, z8, z9, u3, hc0, u4, x1, x2, x3, x4, x5, hdd, hi2, hnq, hkr]
        refine Thn_n ?_
        refine hK _ _ ?_
        clear hK K
        refine AW.ret ?_
        refine hQ _ _ _ ?_
        first | refine RetP.drop0 (Or.inr rfl) ?_ ?_ hwf | refine RetP.drop (Or.inr rfl) ?_ ?_ hwf
        · simp only [resA, resOne, resTv, AV.tv, push_cast, Nat.reduceAdd, Nat.reduceMul, Nat.reduceSub, Nat.reduceLeDiff, Nat.reduceLT, Nat.reduceEqDiff, Nat.reduceBEq, Nat.reduceBNe, Nat.reduceMod, Nat.reduceDiv, Int.reduceLE, Int.reduceLT, Int.reduceToNat, Int.reduceAdd, Int.reduceSub, Int.reduceMul, Int.reduceNeg, Int.reduceEq, Int.reduceBEq, Int.reduceBNe, ↓reduceIte, reduceCtorEq, String.reduceBNe, String.reduceEq, reduceDIte, Nat.reducePow, zN, z0, z2, z4, z5, z6, zw, z7, z8, z9, u3, hc0, u4, x1, x2, x3, x4, x5, hdd, hi2, hnq, hkr]
        · rfl
theorem rparse_gp (t : ByteArray) (N dp q r L : Nat) (A : Int) (nv : Nat → Nat) (m : AMem) (hN : t.size = N) (hN1 : N ≤ 1000) (hFd : 0 < dp) (hd5 : dp ≤ 5) (hNd : (N = dp ∧ L = 0) ∨ (N = dp + 1 + L ∧ (atB t dp).toNat = 46)) (hL16 : L ≤ 16) (hr : r < 65536) (hL0 : rm r L = 0) (hn0 : nv 0 = 0) (hnq : nv dp = q) (hnb : ∀ i, i ≤ dp → nv i ≤ 65535) (hst : ∀ i, 0 ≤ i → i < dp → nv (i + 1) = nv i * 10 + ((atB t i).toNat - 48) ∧ 48 ≤ (atB t i).toNat ∧ (atB t i).toNat ≤ 57) (htl : ∀ i, i < L → atB t (dp + 1 + i) = dgt (rm r i * 10 / 65536)) (hb : q * 65536 + r ≤ 2147483648) (hA : A = ((q * 65536 + r : Nat) : Int)) (c0 : Nat) (hc0 : (atB t 0).toNat = c0) (h45 : c0 ≠ 45) (hTx : Ctr Tryd.prog 38 [.one (.int .i64 A)] m (.one (.str t)) m) : Ctr Tryd.prog 36 [.one (.str t)] m (.tup [(false, [.int .i64 (A)]), (false, [.int .i64 (0)])]) m := by
  refine Ctr.enter Tryd.func36 rfl (by decide) (rs := [.tmp 2, .tmp 3]) (nt := 128) rfl rfl fun hwf Q hQ => ?_
  have zN : (t.size : Int) = (N : Int) := by rw [hN]
  have z0 : decide ((0 : Int) < (N : Int)) = true := decide_eq_true (by omega)
  have z2 : IntKind.i64.wrap ((N : Int) - 1) = (N : Int) - 1 := wi (by omega)
  have z4 : IntKind.i64.wrap ((q : Int) * 65536) = (q : Int) * 65536 := wi (by omega)
  have z5 : IntKind.i64.wrap ((q : Int) * 65536 + (r : Int)) = (q : Int) * 65536 + (r : Int) := wi (by omega)
  have z6 : (q : Int) * 65536 + (r : Int) = A := by rw [hA]; omega
  have zw : IntKind.i64.wrap A = A := wi (by omega)
  have z7 : decide ((2147483648 : Int) < A) = false := decide_eq_false (by omega)
  have z8 : decide (A < -2147483648) = false := decide_eq_false (by omega)
  have z9 : ∀ l : List UInt8, (l == l) = true := fun l => beq_self_eq_true l
  have u3 : t[(0 : Nat)]? = some (atB t 0) := atB_get (by omega)
  have u4 : ((c0 : Int) == 45) = false := by exact beq_false_of_ne (by omega)
  have x1 : IntKind.i64.wrap ((dp : Int) - 0) = (dp : Int) := by rw [wi (by omega)]; omega
  have x2 : IntKind.i64.wrap ((N : Int) - (dp : Int)) = (N : Int) - (dp : Int) := wi (by omega)
  have x3 : (((dp : Int) : Int) == 0) = false := by exact beq_false_of_ne (by omega)
  have x4 : decide ((5 : Int) < (dp : Int)) = false := decide_eq_false (by omega)
  have x5 : decide ((17 : Int) < (N : Int) - (dp : Int)) = false := decide_eq_false (by omega)
  have hR0 : rm r (N - (dp + 1)) = 0 := by
    rcases hNd with ⟨h1, h2⟩ | ⟨h1, _⟩
    · rw [show N - (dp + 1) = L by omega]; exact hL0
    · rw [show N - (dp + 1) = L by omega]; exact hL0
  iterate 2
    refine AW.seq_k fun K hK => ?_
    refine AW.region (by decide) ?_
    simp only [push_cast, Nat.reduceAdd, Nat.reduceMul, Nat.reduceSub, Nat.reduceLeDiff, Nat.reduceLT, Nat.reduceEqDiff, Nat.reduceBEq, Nat.reduceBNe, Nat.reduceMod, Nat.reduceDiv, Int.reduceLE, Int.reduceLT, Int.reduceToNat, Int.reduceAdd, Int.reduceSub, Int.reduceMul, Int.reduceNeg, Int.reduceEq, Int.reduceBEq, Int.reduceBNe, ↓reduceIte, reduceCtorEq, String.reduceBNe, String.reduceEq, reduceDIte, Nat.reducePow, zN, z0, z2, z4, z5, z6, zw, z7, z8, z9, u3, hc0, u4, x1, x2, x3, x4, x5]
    refine Thn_n ?_
    refine hK _ _ ?_
    clear hK K
  refine AW.seq_k fun K hK => ?_
  refine AW.seq_k fun K hK => ?_
  refine AW.region (by decide) ?_
  simp only [push_cast, Nat.reduceAdd, Nat.reduceMul, Nat.reduceSub, Nat.reduceLeDiff, Nat.reduceLT, Nat.reduceEqDiff, Nat.reduceBEq, Nat.reduceBNe, Nat.reduceMod, Nat.reduceDiv, Int.reduceLE, Int.reduceLT, Int.reduceToNat, Int.reduceAdd, Int.reduceSub, Int.reduceMul, Int.reduceNeg, Int.reduceEq, Int.reduceBEq, Int.reduceBNe, ↓reduceIte, reduceCtorEq, String.reduceBNe, String.reduceEq, reduceDIte, Nat.reducePow, zN, z0, z2, z4, z5, z6, zw, z7, z8, z9, u3, hc0, u4, x1, x2, x3, x4, x5]
  refine Thn_n ?_
  refine hK _ _ ?_
  clear hK K
  refine AW.cond_f rfl ?_
  refine AW.skip ?_
  refine Thn_n ?_
  refine hK _ _ ?_
  clear hK K
  refine AW.seq_k fun K hK => ?_
  refine AW.region (by decide) ?_
  simp only [push_cast, Nat.reduceAdd, Nat.reduceMul, Nat.reduceSub, Nat.reduceLeDiff, Nat.reduceLT, Nat.reduceEqDiff, Nat.reduceBEq, Nat.reduceBNe, Nat.reduceMod, Nat.reduceDiv, Int.reduceLE, Int.reduceLT, Int.reduceToNat, Int.reduceAdd, Int.reduceSub, Int.reduceMul, Int.reduceNeg, Int.reduceEq, Int.reduceBEq, Int.reduceBNe, ↓reduceIte, reduceCtorEq, String.reduceBNe, String.reduceEq, reduceDIte, Nat.reducePow, zN, z0, z2, z4, z5, z6, zw, z7, z8, z9, u3, hc0, u4, x1, x2, x3, x4, x5]
  refine Thn_n ?_
  refine hK _ _ ?_
  clear hK K
  refine AW.seq_k fun K hK => ?_
  refine AW.seq_k fun K hK => ?_
  refine AW.region (by decide) ?_
  simp only [push_cast, Nat.reduceAdd, Nat.reduceMul, Nat.reduceSub, Nat.reduceLeDiff, Nat.reduceLT, Nat.reduceEqDiff, Nat.reduceBEq, Nat.reduceBNe, Nat.reduceMod, Nat.reduceDiv, Int.reduceLE, Int.reduceLT, Int.reduceToNat, Int.reduceAdd, Int.reduceSub, Int.reduceMul, Int.reduceNeg, Int.reduceEq, Int.reduceBEq, Int.reduceBNe, ↓reduceIte, reduceCtorEq, String.reduceBNe, String.reduceEq, reduceDIte, Nat.reducePow, zN, z0, z2, z4, z5, z6, zw, z7, z8, z9, u3, hc0, u4, x1, x2, x3, x4, x5]
  refine Thn_n ?_
  refine hK _ _ ?_
  clear hK K
  refine AW.block ?_
  refine AW.loopK [0, 4] (fun z => 0 ≤ z.1 ∧ z.1 ≤ N ∧ ((z.1 ≤ dp ∧ z.2 = N) ∨ (dp < z.1 ∧ z.2 = dp))) (fun z => [(5, .one (.int .i64 (z.2 : Int))), (6, .one (.int .i64 (z.1 : Int)))]) (fun z => []) (fun z => N - z.1) (0, N) (by dsimp only; omega) ?_ ?_ fun z hi8 => ?_
  · first | rfl | (simp only [Keeps, Tm.get_cons, Nat.reduceEqDiff, ↓reduceIte, if_true, if_false, ite_true, ite_false, true_and, and_true, and_self, reduceCtorEq] <;> rfl)
  · first | rfl | (simp only [setAll, push_cast, Nat.reduceAdd, Nat.reduceMul, Nat.reduceSub, Nat.reduceLeDiff, Nat.reduceLT, Nat.reduceEqDiff, Nat.reduceBEq, Nat.reduceBNe, Nat.reduceMod, Nat.reduceDiv, Int.reduceLE, Int.reduceLT, Int.reduceToNat, Int.reduceAdd, Int.reduceSub, Int.reduceMul, Int.reduceNeg, Int.reduceEq, Int.reduceBEq, Int.reduceBNe, ↓reduceIte, reduceCtorEq, String.reduceBNe, String.reduceEq, reduceDIte, Nat.reducePow, zN, z0, z2, z4, z5, z6, zw, z7, z8, z9, u3, hc0, u4, x1, x2, x3, x4, x5] <;> rfl)
  obtain ⟨i, d⟩ := z
  have hI : 0 ≤ i ∧ i ≤ N ∧ ((i ≤ dp ∧ d = N) ∨ (dp < i ∧ d = dp)) := hi8
  try simp only [keepL, setAll, push_cast, Nat.reduceAdd, Nat.reduceMul, Nat.reduceSub, Nat.reduceLeDiff, Nat.reduceLT, Nat.reduceEqDiff, Nat.reduceBEq, Nat.reduceBNe, Nat.reduceMod, Nat.reduceDiv, Int.reduceLE, Int.reduceLT, Int.reduceToNat, Int.reduceAdd, Int.reduceSub, Int.reduceMul, Int.reduceNeg, Int.reduceEq, Int.reduceBEq, Int.reduceBNe, ↓reduceIte, reduceCtorEq, String.reduceBNe, String.reduceEq, reduceDIte, Nat.reducePow, zN, z0, z2, z4, z5, z6, zw, z7, z8, z9, u3, hc0, u4, x1, x2, x3, x4, x5]
  refine AW.seq_k fun K hK => ?_
  refine AW.seq_k fun K hK => ?_
  refine AW.region (by decide) ?_
  simp only [push_cast, Nat.reduceAdd, Nat.reduceMul, Nat.reduceSub, Nat.reduceLeDiff, Nat.reduceLT, Nat.reduceEqDiff, Nat.reduceBEq, Nat.reduceBNe, Nat.reduceMod, Nat.reduceDiv, Int.reduceLE, Int.reduceLT, Int.reduceToNat, Int.reduceAdd, Int.reduceSub, Int.reduceMul, Int.reduceNeg, Int.reduceEq, Int.reduceBEq, Int.reduceBNe, ↓reduceIte, reduceCtorEq, String.reduceBNe, String.reduceEq, reduceDIte, Nat.reducePow, zN, z0, z2, z4, z5, z6, zw, z7, z8, z9, u3, hc0, u4, x1, x2, x3, x4, x5]
  refine Thn_n ?_
  refine hK _ _ ?_
  clear hK K
  refine AW.cond rfl (fun h26 => ?_) (fun h26 => ?_)
  · have hlt : i < N := by have := of_decide_eq_true h26; omega
    obtain ⟨e, he⟩ : ∃ e, e = (atB t i).toNat := ⟨_, rfl⟩
    have y1 : (0 : Int) ≤ (i : Int) := by omega
    have y2 : ((i : Int)).toNat = i := Int.toNat_natCast _
    have y3 : t[i]? = some (atB t i) := atB_get (by omega)
    have y4 : (atB t i).toNat = e := he.symm
    have y5 : IntKind.i64.wrap ((i : Int) + 1) = (i : Int) + 1 := wi (by omega)
    have hcs : (e ≠ 46 ∧ i ≠ dp) ∨ (e = 46 ∧ i = dp ∧ d = N) := by
      rcases Nat.lt_trichotomy i dp with h | h | h
      · have := hst i (by omega) h; omega
      · right
        rcases hNd with ⟨h1, _⟩ | ⟨_, h2⟩
        · omega
        · rw [h] at he; omega
      · left
        have h3 := htl (i - (dp + 1)) (by omega)
        rw [show dp + 1 + (i - (dp + 1)) = i by omega] at h3
        have h4 := rm_lt hr (i - (dp + 1))
        have h5 := dgt_val (d := rm r (i - (dp + 1)) * 10 / 65536) (by omega)
        rw [← h3] at h5; omega
    rcases hcs with hc | hc
    · have y6 : (((e : Int) : Int) == 46) = false := by exact beq_false_of_ne (by omega)
      refine AW.skip ?_
      refine Thn_n ?_
      refine hK _ _ ?_
      clear hK K
      refine AW.seq_k fun K hK => ?_
      refine AW.block ?_
      refine AW.seq_k fun K hK => ?_
      refine AW.region (by decide) ?_
      simp only [push_cast, Nat.reduceAdd, Nat.reduceMul, Nat.reduceSub, Nat.reduceLeDiff, Nat.reduceLT, Nat.reduceEqDiff, Nat.reduceBEq, Nat.reduceBNe, Nat.reduceMod, Nat.reduceDiv, Int.reduceLE, Int.reduceLT, Int.reduceToNat, Int.reduceAdd, Int.reduceSub, Int.reduceMul, Int.reduceNeg, Int.reduceEq, Int.reduceBEq, Int.reduceBNe, ↓reduceIte, reduceCtorEq, String.reduceBNe, String.reduceEq, reduceDIte, Nat.reducePow, zN, z0, z2, z4, z5, z6, zw, z7, z8, z9, u3, hc0, u4, x1, x2, x3, x4, x5, y1, y2, y3, y4, y5, y6]
      refine Thn_n ?_
      refine hK _ _ ?_
      clear hK K
      refine AW.cond_f rfl ?_
      refine AW.skip ?_
      refine InB_n ?_
      refine Thn_n ?_
      refine hK _ _ ?_
      clear hK K
      refine AW.region (by decide) ?_
      simp only [push_cast, Nat.reduceAdd, Nat.reduceMul, Nat.reduceSub, Nat.reduceLeDiff, Nat.reduceLT, Nat.reduceEqDiff, Nat.reduceBEq, Nat.reduceBNe, Nat.reduceMod, Nat.reduceDiv, Int.reduceLE, Int.reduceLT, Int.reduceToNat, Int.reduceAdd, Int.reduceSub, Int.reduceMul, Int.reduceNeg, Int.reduceEq, Int.reduceBEq, Int.reduceBNe, ↓reduceIte, reduceCtorEq, String.reduceBNe, String.reduceEq, reduceDIte, Nat.reducePow, zN, z0, z2, z4, z5, z6, zw, z7, z8, z9, u3, hc0, u4, x1, x2, x3, x4, x5, y1, y2, y3, y4, y5, y6]
      refine Thn_n ?_
      refine ⟨(i + 1, d), (by dsimp only; omega), (by show N - (i + 1) < N - i; omega), ?_⟩
      try simp only [keepL, setAll, push_cast, Nat.reduceAdd, Nat.reduceMul, Nat.reduceSub, Nat.reduceLeDiff, Nat.reduceLT, Nat.reduceEqDiff, Nat.reduceBEq, Nat.reduceBNe, Nat.reduceMod, Nat.reduceDiv, Int.reduceLE, Int.reduceLT, Int.reduceToNat, Int.reduceAdd, Int.reduceSub, Int.reduceMul, Int.reduceNeg, Int.reduceEq, Int.reduceBEq, Int.reduceBNe, ↓reduceIte, reduceCtorEq, String.reduceBNe, String.reduceEq, reduceDIte, Nat.reducePow, zN, z0, z2, z4, z5, z6, zw, z7, z8, z9, u3, hc0, u4, x1, x2, x3, x4, x5, y1, y2, y3, y4, y5, y6]
      exact Weak.same (by simp only [Keeps, Tm.get_cons, Nat.reduceEqDiff, ↓reduceIte, if_true, if_false, ite_true, ite_false, true_and, and_true, and_self, reduceCtorEq]) (by first | rfl | simp only [Keeps, Tm.get_cons, Nat.reduceEqDiff, ↓reduceIte, if_true, if_false, ite_true, ite_false, true_and, and_true, and_self, reduceCtorEq])
    · have y6 : (((e : Int) : Int) == 46) = true := by (rw [show ((e : Int) : Int) = 46 by omega]; exact beq_self_eq_true _)
      have y7 : (((d : Int) : Int) == (N : Int)) = true := by (rw [show ((d : Int) : Int) = (N : Int) by omega]; exact beq_self_eq_true _)
      refine AW.skip ?_
      refine Thn_n ?_
      refine hK _ _ ?_
      clear hK K
      refine AW.seq_k fun K hK => ?_
      refine AW.block ?_
      refine AW.seq_k fun K hK => ?_
      refine AW.region (by decide) ?_
      simp only [push_cast, Nat.reduceAdd, Nat.reduceMul, Nat.reduceSub, Nat.reduceLeDiff, Nat.reduceLT, Nat.reduceEqDiff, Nat.reduceBEq, Nat.reduceBNe, Nat.reduceMod, Nat.reduceDiv, Int.reduceLE, Int.reduceLT, Int.reduceToNat, Int.reduceAdd, Int.reduceSub, Int.reduceMul, Int.reduceNeg, Int.reduceEq, Int.reduceBEq, Int.reduceBNe, ↓reduceIte, reduceCtorEq, String.reduceBNe, String.reduceEq, reduceDIte, Nat.reducePow, zN, z0, z2, z4, z5, z6, zw, z7, z8, z9, u3, hc0, u4, x1, x2, x3, x4, x5, y1, y2, y3, y4, y5, y6, y7]
      refine Thn_n ?_
      refine hK _ _ ?_
      clear hK K
      refine AW.cond_t rfl ?_
      refine AW.region (by decide) ?_
      simp only [push_cast, Nat.reduceAdd, Nat.reduceMul, Nat.reduceSub, Nat.reduceLeDiff, Nat.reduceLT, Nat.reduceEqDiff, Nat.reduceBEq, Nat.reduceBNe, Nat.reduceMod, Nat.reduceDiv, Int.reduceLE, Int.reduceLT, Int.reduceToNat, Int.reduceAdd, Int.reduceSub, Int.reduceMul, Int.reduceNeg, Int.reduceEq, Int.reduceBEq, Int.reduceBNe, ↓reduceIte, reduceCtorEq, String.reduceBNe, String.reduceEq, reduceDIte, Nat.reducePow, zN, z0, z2, z4, z5, z6, zw, z7, z8, z9, u3, hc0, u4, x1, x2, x3, x4, x5, y1, y2, y3, y4, y5, y6, y7]
      refine InB_n ?_
      refine Thn_n ?_
      refine hK _ _ ?_
      clear hK K
      refine AW.region (by decide) ?_
      simp only [push_cast, Nat.reduceAdd, Nat.reduceMul, Nat.reduceSub, Nat.reduceLeDiff, Nat.reduceLT, Nat.reduceEqDiff, Nat.reduceBEq, Nat.reduceBNe, Nat.reduceMod, Nat.reduceDiv, Int.reduceLE, Int.reduceLT, Int.reduceToNat, Int.reduceAdd, Int.reduceSub, Int.reduceMul, Int.reduceNeg, Int.reduceEq, Int.reduceBEq, Int.reduceBNe, ↓reduceIte, reduceCtorEq, String.reduceBNe, String.reduceEq, reduceDIte, Nat.reducePow, zN, z0, z2, z4, z5, z6, zw, z7, z8, z9, u3, hc0, u4, x1, x2, x3, x4, x5, y1, y2, y3, y4, y5, y6, y7]
      refine Thn_n ?_
      refine ⟨(i + 1, i), (by dsimp only; omega), (by show N - (i + 1) < N - i; omega), ?_⟩
      try simp only [keepL, setAll, push_cast, Nat.reduceAdd, Nat.reduceMul, Nat.reduceSub, Nat.reduceLeDiff, Nat.reduceLT, Nat.reduceEqDiff, Nat.reduceBEq, Nat.reduceBNe, Nat.reduceMod, Nat.reduceDiv, Int.reduceLE, Int.reduceLT, Int.reduceToNat, Int.reduceAdd, Int.reduceSub, Int.reduceMul, Int.reduceNeg, Int.reduceEq, Int.reduceBEq, Int.reduceBNe, ↓reduceIte, reduceCtorEq, String.reduceBNe, String.reduceEq, reduceDIte, Nat.reducePow, zN, z0, z2, z4, z5, z6, zw, z7, z8, z9, u3, hc0, u4, x1, x2, x3, x4, x5, y1, y2, y3, y4, y5, y6, y7]
      exact Weak.same (by simp only [Keeps, Tm.get_cons, Nat.reduceEqDiff, ↓reduceIte, if_true, if_false, ite_true, ite_false, true_and, and_true, and_self, reduceCtorEq]) (by first | rfl | simp only [Keeps, Tm.get_cons, Nat.reduceEqDiff, ↓reduceIte, if_true, if_false, ite_true, ite_false, true_and, and_true, and_self, reduceCtorEq])
  · have hge : ¬ i < N := by have := of_decide_eq_false h26; omega
    have hdd : d = dp := by omega
    refine AW.exit ?_
    refine Thn_e ?_
    clear hK K
    refine Thn_e ?_
    refine InB_here ?_
    refine Thn_n ?_
    refine hK _ _ ?_
    clear hK K
    refine AW.seq_k fun K hK => ?_
    refine AW.seq_k fun K hK => ?_
    refine AW.region (by decide) ?_
    simp only [push_cast, Nat.reduceAdd, Nat.reduceMul, Nat.reduceSub, Nat.reduceLeDiff, Nat.reduceLT, Nat.reduceEqDiff, Nat.reduceBEq, Nat.reduceBNe, Nat.reduceMod, Nat.reduceDiv, Int.reduceLE, Int.reduceLT, Int.reduceToNat, Int.reduceAdd, Int.reduceSub, Int.reduceMul, Int.reduceNeg, Int.reduceEq, Int.reduceBEq, Int.reduceBNe, ↓reduceIte, reduceCtorEq, String.reduceBNe, String.reduceEq, reduceDIte, Nat.reducePow, zN, z0, z2, z4, z5, z6, zw, z7, z8, z9, u3, hc0, u4, x1, x2, x3, x4, x5, hdd]
    refine Thn_n ?_
    refine hK _ _ ?_
    clear hK K
    refine AW.cond_f rfl ?_
    refine AW.skip ?_
    refine Thn_n ?_
    refine hK _ _ ?_
    clear hK K
    refine AW.seq_k fun K hK => ?_
    refine AW.region (by decide) ?_
    simp only [push_cast, Nat.reduceAdd, Nat.reduceMul, Nat.reduceSub, Nat.reduceLeDiff, Nat.reduceLT, Nat.reduceEqDiff, Nat.reduceBEq, Nat.reduceBNe, Nat.reduceMod, Nat.reduceDiv, Int.reduceLE, Int.reduceLT, Int.reduceToNat, Int.reduceAdd, Int.reduceSub, Int.reduceMul, Int.reduceNeg, Int.reduceEq, Int.reduceBEq, Int.reduceBNe, ↓reduceIte, reduceCtorEq, String.reduceBNe, String.reduceEq, reduceDIte, Nat.reducePow, zN, z0, z2, z4, z5, z6, zw, z7, z8, z9, u3, hc0, u4, x1, x2, x3, x4, x5, hdd]
    refine Thn_n ?_
    refine hK _ _ ?_
    clear hK K
    refine AW.seq_k fun K hK => ?_
    refine AW.seq_k fun K hK => ?_
    refine AW.region (by decide) ?_
    simp only [push_cast, Nat.reduceAdd, Nat.reduceMul, Nat.reduceSub, Nat.reduceLeDiff, Nat.reduceLT, Nat.reduceEqDiff, Nat.reduceBEq, Nat.reduceBNe, Nat.reduceMod, Nat.reduceDiv, Int.reduceLE, Int.reduceLT, Int.reduceToNat, Int.reduceAdd, Int.reduceSub, Int.reduceMul, Int.reduceNeg, Int.reduceEq, Int.reduceBEq, Int.reduceBNe, ↓reduceIte, reduceCtorEq, String.reduceBNe, String.reduceEq, reduceDIte, Nat.reducePow, zN, z0, z2, z4, z5, z6, zw, z7, z8, z9, u3, hc0, u4, x1, x2, x3, x4, x5, hdd]
    refine Thn_n ?_
    refine hK _ _ ?_
    clear hK K
    refine AW.block ?_
    refine AW.loopK [0, 4, 5] (fun i2 => 0 ≤ i2 ∧ i2 ≤ dp) (fun i2 => [(7, .one (.int .i64 (nv i2 : Int))), (8, .one (.int .i64 (i2 : Int)))]) (fun i2 => []) (fun i2 => dp - i2) 0 (by omega) ?_ ?_ fun i2 hi20 => ?_
    · first | rfl | (simp only [Keeps, Tm.get_cons, Nat.reduceEqDiff, ↓reduceIte, if_true, if_false, ite_true, ite_false, true_and, and_true, and_self, reduceCtorEq, hn0] <;> first | rfl | exact ⟨rfl, rfl⟩)
    · first | rfl | (simp only [setAll, push_cast, Nat.reduceAdd, Nat.reduceMul, Nat.reduceSub, Nat.reduceLeDiff, Nat.reduceLT, Nat.reduceEqDiff, Nat.reduceBEq, Nat.reduceBNe, Nat.reduceMod, Nat.reduceDiv, Int.reduceLE, Int.reduceLT, Int.reduceToNat, Int.reduceAdd, Int.reduceSub, Int.reduceMul, Int.reduceNeg, Int.reduceEq, Int.reduceBEq, Int.reduceBNe, ↓reduceIte, reduceCtorEq, String.reduceBNe, String.reduceEq, reduceDIte, Nat.reducePow, zN, z0, z2, z4, z5, z6, zw, z7, z8, z9, u3, hc0, u4, x1, x2, x3, x4, x5, hdd] <;> rfl)
    have hI2 := hi20
    try simp only [keepL, setAll, push_cast, Nat.reduceAdd, Nat.reduceMul, Nat.reduceSub, Nat.reduceLeDiff, Nat.reduceLT, Nat.reduceEqDiff, Nat.reduceBEq, Nat.reduceBNe, Nat.reduceMod, Nat.reduceDiv, Int.reduceLE, Int.reduceLT, Int.reduceToNat, Int.reduceAdd, Int.reduceSub, Int.reduceMul, Int.reduceNeg, Int.reduceEq, Int.reduceBEq, Int.reduceBNe, ↓reduceIte, reduceCtorEq, String.reduceBNe, String.reduceEq, reduceDIte, Nat.reducePow, zN, z0, z2, z4, z5, z6, zw, z7, z8, z9, u3, hc0, u4, x1, x2, x3, x4, x5, hdd]
    refine AW.seq_k fun K hK => ?_
    refine AW.seq_k fun K hK => ?_
    refine AW.region (by decide) ?_
    simp only [push_cast, Nat.reduceAdd, Nat.reduceMul, Nat.reduceSub, Nat.reduceLeDiff, Nat.reduceLT, Nat.reduceEqDiff, Nat.reduceBEq, Nat.reduceBNe, Nat.reduceMod, Nat.reduceDiv, Int.reduceLE, Int.reduceLT, Int.reduceToNat, Int.reduceAdd, Int.reduceSub, Int.reduceMul, Int.reduceNeg, Int.reduceEq, Int.reduceBEq, Int.reduceBNe, ↓reduceIte, reduceCtorEq, String.reduceBNe, String.reduceEq, reduceDIte, Nat.reducePow, zN, z0, z2, z4, z5, z6, zw, z7, z8, z9, u3, hc0, u4, x1, x2, x3, x4, x5, hdd]
    refine Thn_n ?_
    refine hK _ _ ?_
    clear hK K
    refine AW.cond rfl (fun h59 => ?_) (fun h59 => ?_)
    · have hlt : i2 < dp := by have := of_decide_eq_true h59; omega
      obtain ⟨e, he⟩ : ∃ e, e = (atB t i2).toNat := ⟨_, rfl⟩
      have y1 : (0 : Int) ≤ (i2 : Int) := by omega
      have y2 : ((i2 : Int)).toNat = i2 := Int.toNat_natCast _
      have y3 : t[i2]? = some (atB t i2) := atB_get (by omega)
      have y4 : (atB t i2).toNat = e := he.symm
      have y5 : IntKind.i64.wrap ((i2 : Int) + 1) = (i2 : Int) + 1 := wi (by omega)
      have hs := hst i2 hI2.1 hlt
      have hb1 := hnb i2 (by omega)
      have hb2 := hnb (i2 + 1) (by omega)
      obtain ⟨n0, hn0'⟩ : ∃ n0, n0 = nv i2 := ⟨_, rfl⟩
      obtain ⟨n1, hn1⟩ : ∃ n1, n1 = nv (i2 + 1) := ⟨_, rfl⟩
      rw [← hn0', ← hn1, ← he] at hs
      rw [← hn0'] at hb1
      rw [← hn1] at hb2
      obtain ⟨c, hc⟩ : ∃ c, c = e - 48 := ⟨_, rfl⟩
      have y6 : decide ((e : Int) < 48) = false := decide_eq_false (by omega)
      have y7 : decide ((57 : Int) < (e : Int)) = false := decide_eq_false (by omega)
      have y8 : IntKind.i64.wrap ((n0 : Int) * 10) = (n0 : Int) * 10 := wi (by omega)
      have y9 : IntKind.u8.wrap ((e : Int) - 48) = (c : Int) := by rw [wu8 (by omega)]; omega
      have ya : IntKind.i64.wrap (c : Int) = (c : Int) := wi (by omega)
      have yb : IntKind.i64.wrap ((n0 : Int) * 10 + (c : Int)) = (n1 : Int) := by rw [wi (by omega)]; omega
      refine AW.skip ?_
      refine Thn_n ?_
      refine hK _ _ ?_
      clear hK K
      refine AW.seq_k fun K hK => ?_
      refine AW.block ?_
      refine AW.seq_k fun K hK => ?_
      refine AW.seq_k fun K hK => ?_
      refine AW.region (by decide) ?_
      simp only [push_cast, Nat.reduceAdd, Nat.reduceMul, Nat.reduceSub, Nat.reduceLeDiff, Nat.reduceLT, Nat.reduceEqDiff, Nat.reduceBEq, Nat.reduceBNe, Nat.reduceMod, Nat.reduceDiv, Int.reduceLE, Int.reduceLT, Int.reduceToNat, Int.reduceAdd, Int.reduceSub, Int.reduceMul, Int.reduceNeg, Int.reduceEq, Int.reduceBEq, Int.reduceBNe, ↓reduceIte, reduceCtorEq, String.reduceBNe, String.reduceEq, reduceDIte, Nat.reducePow, zN, z0, z2, z4, z5, z6, zw, z7, z8, z9, u3, hc0, u4, x1, x2, x3, x4, x5, hdd, y1, y2, y3, y4, y5, y6, y7, y8, y9, ya, yb, ← hn0', ← hn1]
      refine Thn_n ?_
      refine hK _ _ ?_
      clear hK K
      refine AW.cond_f rfl ?_
      refine AW.skip ?_
      refine Thn_n ?_
      refine hK _ _ ?_
      clear hK K
      refine AW.region (by decide) ?_
      simp only [push_cast, Nat.reduceAdd, Nat.reduceMul, Nat.reduceSub, Nat.reduceLeDiff, Nat.reduceLT, Nat.reduceEqDiff, Nat.reduceBEq, Nat.reduceBNe, Nat.reduceMod, Nat.reduceDiv, Int.reduceLE, Int.reduceLT, Int.reduceToNat, Int.reduceAdd, Int.reduceSub, Int.reduceMul, Int.reduceNeg, Int.reduceEq, Int.reduceBEq, Int.reduceBNe, ↓reduceIte, reduceCtorEq, String.reduceBNe, String.reduceEq, reduceDIte, Nat.reducePow, zN, z0, z2, z4, z5, z6, zw, z7, z8, z9, u3, hc0, u4, x1, x2, x3, x4, x5, hdd, y1, y2, y3, y4, y5, y6, y7, y8, y9, ya, yb, ← hn0', ← hn1]
      refine InB_n ?_
      refine Thn_n ?_
      refine hK _ _ ?_
      clear hK K
      refine AW.region (by decide) ?_
      simp only [push_cast, Nat.reduceAdd, Nat.reduceMul, Nat.reduceSub, Nat.reduceLeDiff, Nat.reduceLT, Nat.reduceEqDiff, Nat.reduceBEq, Nat.reduceBNe, Nat.reduceMod, Nat.reduceDiv, Int.reduceLE, Int.reduceLT, Int.reduceToNat, Int.reduceAdd, Int.reduceSub, Int.reduceMul, Int.reduceNeg, Int.reduceEq, Int.reduceBEq, Int.reduceBNe, ↓reduceIte, reduceCtorEq, String.reduceBNe, String.reduceEq, reduceDIte, Nat.reducePow, zN, z0, z2, z4, z5, z6, zw, z7, z8, z9, u3, hc0, u4, x1, x2, x3, x4, x5, hdd, y1, y2, y3, y4, y5, y6, y7, y8, y9, ya, yb, ← hn0', ← hn1]
      refine Thn_n ?_
      refine ⟨i2 + 1, (by omega), (by omega), ?_⟩
      try simp only [keepL, setAll, push_cast, Nat.reduceAdd, Nat.reduceMul, Nat.reduceSub, Nat.reduceLeDiff, Nat.reduceLT, Nat.reduceEqDiff, Nat.reduceBEq, Nat.reduceBNe, Nat.reduceMod, Nat.reduceDiv, Int.reduceLE, Int.reduceLT, Int.reduceToNat, Int.reduceAdd, Int.reduceSub, Int.reduceMul, Int.reduceNeg, Int.reduceEq, Int.reduceBEq, Int.reduceBNe, ↓reduceIte, reduceCtorEq, String.reduceBNe, String.reduceEq, reduceDIte, Nat.reducePow, zN, z0, z2, z4, z5, z6, zw, z7, z8, z9, u3, hc0, u4, x1, x2, x3, x4, x5, hdd, y1, y2, y3, y4, y5, y6, y7, y8, y9, ya, yb, ← hn0', ← hn1]
      exact Weak.same (by simp only [Keeps, Tm.get_cons, Nat.reduceEqDiff, ↓reduceIte, if_true, if_false, ite_true, ite_false, true_and, and_true, and_self, reduceCtorEq]) (by first | rfl | simp only [Keeps, Tm.get_cons, Nat.reduceEqDiff, ↓reduceIte, if_true, if_false, ite_true, ite_false, true_and, and_true, and_self, reduceCtorEq])
    · have hi2 : i2 = dp := by have := of_decide_eq_false h59; omega
      refine AW.exit ?_
      refine Thn_e ?_
      clear hK K
      refine Thn_e ?_
      refine InB_here ?_
      refine Thn_n ?_
      refine hK _ _ ?_
      clear hK K
      refine AW.seq_k fun K hK => ?_
      refine AW.region (by decide) ?_
      simp only [push_cast, Nat.reduceAdd, Nat.reduceMul, Nat.reduceSub, Nat.reduceLeDiff, Nat.reduceLT, Nat.reduceEqDiff, Nat.reduceBEq, Nat.reduceBNe, Nat.reduceMod, Nat.reduceDiv, Int.reduceLE, Int.reduceLT, Int.reduceToNat, Int.reduceAdd, Int.reduceSub, Int.reduceMul, Int.reduceNeg, Int.reduceEq, Int.reduceBEq, Int.reduceBNe, ↓reduceIte, reduceCtorEq, String.reduceBNe, String.reduceEq, reduceDIte, Nat.reducePow, zN, z0, z2, z4, z5, z6, zw, z7, z8, z9, u3, hc0, u4, x1, x2, x3, x4, x5, hdd, hi2, hnq]
      refine Thn_n ?_
      refine hK _ _ ?_
      clear hK K
      refine AW.seq_k fun K hK => ?_
      refine AW.seq_k fun K hK => ?_
      refine AW.region (by decide) ?_
      simp only [push_cast, Nat.reduceAdd, Nat.reduceMul, Nat.reduceSub, Nat.reduceLeDiff, Nat.reduceLT, Nat.reduceEqDiff, Nat.reduceBEq, Nat.reduceBNe, Nat.reduceMod, Nat.reduceDiv, Int.reduceLE, Int.reduceLT, Int.reduceToNat, Int.reduceAdd, Int.reduceSub, Int.reduceMul, Int.reduceNeg, Int.reduceEq, Int.reduceBEq, Int.reduceBNe, ↓reduceIte, reduceCtorEq, String.reduceBNe, String.reduceEq, reduceDIte, Nat.reducePow, zN, z0, z2, z4, z5, z6, zw, z7, z8, z9, u3, hc0, u4, x1, x2, x3, x4, x5, hdd, hi2, hnq]
      refine Thn_n ?_
      refine hK _ _ ?_
      clear hK K
      refine AW.block ?_
      refine AW.loopK [0, 4, 5, 7] (fun k => k ≤ N) (fun k => [(9, .one (.int .i64 (rm r (k - (dp + 1)) : Int))), (10, .one (.int .i64 ((k : Int) - 1)))]) (fun k => []) (fun k => k) N (Nat.le_refl _) ?_ ?_ fun k hi29 => ?_
      · first | rfl | (simp only [Keeps, Tm.get_cons, Nat.reduceEqDiff, ↓reduceIte, if_true, if_false, ite_true, ite_false, true_and, and_true, and_self, reduceCtorEq, hR0] <;> first | rfl | exact ⟨rfl, rfl⟩)
      · first | rfl | (simp only [setAll, push_cast, Nat.reduceAdd, Nat.reduceMul, Nat.reduceSub, Nat.reduceLeDiff, Nat.reduceLT, Nat.reduceEqDiff, Nat.reduceBEq, Nat.reduceBNe, Nat.reduceMod, Nat.reduceDiv, Int.reduceLE, Int.reduceLT, Int.reduceToNat, Int.reduceAdd, Int.reduceSub, Int.reduceMul, Int.reduceNeg, Int.reduceEq, Int.reduceBEq, Int.reduceBNe, ↓reduceIte, reduceCtorEq, String.reduceBNe, String.reduceEq, reduceDIte, Nat.reducePow, zN, z0, z2, z4, z5, z6, zw, z7, z8, z9, u3, hc0, u4, x1, x2, x3, x4, x5, hdd, hi2, hnq] <;> rfl)
      have hkN := hi29
      try simp only [keepL, setAll, push_cast, Nat.reduceAdd, Nat.reduceMul, Nat.reduceSub, Nat.reduceLeDiff, Nat.reduceLT, Nat.reduceEqDiff, Nat.reduceBEq, Nat.reduceBNe, Nat.reduceMod, Nat.reduceDiv, Int.reduceLE, Int.reduceLT, Int.reduceToNat, Int.reduceAdd, Int.reduceSub, Int.reduceMul, Int.reduceNeg, Int.reduceEq, Int.reduceBEq, Int.reduceBNe, ↓reduceIte, reduceCtorEq, String.reduceBNe, String.reduceEq, reduceDIte, Nat.reducePow, zN, z0, z2, z4, z5, z6, zw, z7, z8, z9, u3, hc0, u4, x1, x2, x3, x4, x5, hdd, hi2, hnq]
      refine AW.seq_k fun K hK => ?_
      refine AW.seq_k fun K hK => ?_
      refine AW.region (by decide) ?_
      simp only [push_cast, Nat.reduceAdd, Nat.reduceMul, Nat.reduceSub, Nat.reduceLeDiff, Nat.reduceLT, Nat.reduceEqDiff, Nat.reduceBEq, Nat.reduceBNe, Nat.reduceMod, Nat.reduceDiv, Int.reduceLE, Int.reduceLT, Int.reduceToNat, Int.reduceAdd, Int.reduceSub, Int.reduceMul, Int.reduceNeg, Int.reduceEq, Int.reduceBEq, Int.reduceBNe, ↓reduceIte, reduceCtorEq, String.reduceBNe, String.reduceEq, reduceDIte, Nat.reducePow, zN, z0, z2, z4, z5, z6, zw, z7, z8, z9, u3, hc0, u4, x1, x2, x3, x4, x5, hdd, hi2, hnq]
      refine Thn_n ?_
      refine hK _ _ ?_
      clear hK K
      refine AW.cond rfl (fun h85 => ?_) (fun h85 => ?_)
      · obtain ⟨j, hj⟩ : ∃ j, k = dp + 1 + (j + 1) := ⟨k - (dp + 1) - 1, by have := of_decide_eq_true h85; omega⟩
        obtain ⟨w, hw⟩ : ∃ w, w = dp + 1 + j := ⟨_, rfl⟩
        have y0 : (k : Int) - 1 = (w : Int) := by omega
        obtain ⟨e, he⟩ : ∃ e, e = (atB t w).toNat := ⟨_, rfl⟩
        have y1 : (0 : Int) ≤ (w : Int) := by omega
        have y2 : ((w : Int)).toNat = w := Int.toNat_natCast _
        have y3 : t[w]? = some (atB t w) := atB_get (by omega)
        have y4 : (atB t w).toNat = e := he.symm
        obtain ⟨d', hd'⟩ : ∃ d', d' = rm r j * 10 / 65536 := ⟨_, rfl⟩
        obtain ⟨x0, hx0⟩ : ∃ x0, x0 = rm r j := ⟨_, rfl⟩
        obtain ⟨v1, hx1⟩ : ∃ v1, v1 = rm r (j + 1) := ⟨_, rfl⟩
        have f1 : rm r (k - (dp + 1)) = v1 := by rw [hx1, show k - (dp + 1) = j + 1 by omega]
        have f0 : rm r (w - (dp + 1)) = x0 := by rw [hx0, show w - (dp + 1) = j by omega]
        have hst' := rm_step r j
        rw [← hx0, ← hx1] at hst'
        have hx65 := rm_lt hr j
        rw [← hx0] at hx65 hd'
        rw [← hd'] at hst'
        have hd10 : d' < 10 := by omega
        have hjL : j < L := by omega
        have he2 : e = 48 + d' := by rw [he, hw, htl j hjL, ← hx0, ← hd']; exact dgt_val hd10
        have y5 : IntKind.u8.wrap ((e : Int) - 48) = (d' : Int) := by rw [wu8 (by omega)]; omega
        have y6 : decide ((e : Int) < 48) = false := decide_eq_false (by omega)
        have y7 : decide ((57 : Int) < (e : Int)) = false := decide_eq_false (by omega)
        have y8 : IntKind.i64.wrap (d' : Int) = (d' : Int) := wi (by omega)
        have y9 : IntKind.i64.wrap ((d' : Int) * 65536) = (d' : Int) * 65536 := wi (by omega)
        have ya : IntKind.i64.wrap ((v1 : Int) + (d' : Int) * 65536) = (x0 : Int) * 10 := by rw [wi (by omega)]; omega
        have yc : ((x0 : Int) * 10).tdiv 10 = (x0 : Int) := by rw [Int.tdiv_eq_ediv_of_nonneg (by omega)]; omega
        have yd : IntKind.i64.wrap (x0 : Int) = (x0 : Int) := wi (by omega)
        have ye : IntKind.i64.wrap ((w : Int) - 1) = (w : Int) - 1 := wi (by omega)
        refine AW.skip ?_
        refine Thn_n ?_
        refine hK _ _ ?_
        clear hK K
        refine AW.seq_k fun K hK => ?_
        refine AW.block ?_
        refine AW.seq_k fun K hK => ?_
        refine AW.seq_k fun K hK => ?_
        refine AW.region (by decide) ?_
        simp only [push_cast, Nat.reduceAdd, Nat.reduceMul, Nat.reduceSub, Nat.reduceLeDiff, Nat.reduceLT, Nat.reduceEqDiff, Nat.reduceBEq, Nat.reduceBNe, Nat.reduceMod, Nat.reduceDiv, Int.reduceLE, Int.reduceLT, Int.reduceToNat, Int.reduceAdd, Int.reduceSub, Int.reduceMul, Int.reduceNeg, Int.reduceEq, Int.reduceBEq, Int.reduceBNe, ↓reduceIte, reduceCtorEq, String.reduceBNe, String.reduceEq, reduceDIte, Nat.reducePow, zN, z0, z2, z4, z5, z6, zw, z7, z8, z9, u3, hc0, u4, x1, x2, x3, x4, x5, hdd, hi2, hnq, y0, y1, y2, y3, y4, y5, y6, y7, y8, y9, ya, yc, yd, ye, f0, f1]
        refine Thn_n ?_
        refine hK _ _ ?_
        clear hK K
        refine AW.cond_f rfl ?_
        refine AW.skip ?_
        refine Thn_n ?_
        refine hK _ _ ?_
        clear hK K
        refine AW.region (by decide) ?_
        simp only [push_cast, Nat.reduceAdd, Nat.reduceMul, Nat.reduceSub, Nat.reduceLeDiff, Nat.reduceLT, Nat.reduceEqDiff, Nat.reduceBEq, Nat.reduceBNe, Nat.reduceMod, Nat.reduceDiv, Int.reduceLE, Int.reduceLT, Int.reduceToNat, Int.reduceAdd, Int.reduceSub, Int.reduceMul, Int.reduceNeg, Int.reduceEq, Int.reduceBEq, Int.reduceBNe, ↓reduceIte, reduceCtorEq, String.reduceBNe, String.reduceEq, reduceDIte, Nat.reducePow, zN, z0, z2, z4, z5, z6, zw, z7, z8, z9, u3, hc0, u4, x1, x2, x3, x4, x5, hdd, hi2, hnq, y0, y1, y2, y3, y4, y5, y6, y7, y8, y9, ya, yc, yd, ye, f0, f1]
        refine InB_n ?_
        refine Thn_n ?_
        refine hK _ _ ?_
        clear hK K
        refine AW.region (by decide) ?_
        simp only [push_cast, Nat.reduceAdd, Nat.reduceMul, Nat.reduceSub, Nat.reduceLeDiff, Nat.reduceLT, Nat.reduceEqDiff, Nat.reduceBEq, Nat.reduceBNe, Nat.reduceMod, Nat.reduceDiv, Int.reduceLE, Int.reduceLT, Int.reduceToNat, Int.reduceAdd, Int.reduceSub, Int.reduceMul, Int.reduceNeg, Int.reduceEq, Int.reduceBEq, Int.reduceBNe, ↓reduceIte, reduceCtorEq, String.reduceBNe, String.reduceEq, reduceDIte, Nat.reducePow, zN, z0, z2, z4, z5, z6, zw, z7, z8, z9, u3, hc0, u4, x1, x2, x3, x4, x5, hdd, hi2, hnq, y0, y1, y2, y3, y4, y5, y6, y7, y8, y9, ya, yc, yd, ye, f0, f1]
        refine Thn_n ?_
        refine ⟨w, (by omega), (by omega), ?_⟩
        try simp only [keepL, setAll, push_cast, Nat.reduceAdd, Nat.reduceMul, Nat.reduceSub, Nat.reduceLeDiff, Nat.reduceLT, Nat.reduceEqDiff, Nat.reduceBEq, Nat.reduceBNe, Nat.reduceMod, Nat.reduceDiv, Int.reduceLE, Int.reduceLT, Int.reduceToNat, Int.reduceAdd, Int.reduceSub, Int.reduceMul, Int.reduceNeg, Int.reduceEq, Int.reduceBEq, Int.reduceBNe, ↓reduceIte, reduceCtorEq, String.reduceBNe, String.reduceEq, reduceDIte, Nat.reducePow, zN, z0, z2, z4, z5, z6, zw, z7, z8, z9, u3, hc0, u4, x1, x2, x3, x4, x5, hdd, hi2, hnq, y0, y1, y2, y3, y4, y5, y6, y7, y8, y9, ya, yc, yd, ye, f0, f1]
        exact Weak.same (by simp only [Keeps, Tm.get_cons, Nat.reduceEqDiff, ↓reduceIte, if_true, if_false, ite_true, ite_false, true_and, and_true, and_self, reduceCtorEq]) (by first | rfl | simp only [Keeps, Tm.get_cons, Nat.reduceEqDiff, ↓reduceIte, if_true, if_false, ite_true, ite_false, true_and, and_true, and_self, reduceCtorEq])
      · have hkr : rm r (k - (dp + 1)) = r := by have := of_decide_eq_false h85; rw [show k - (dp + 1) = 0 by omega]; rfl
        refine AW.exit ?_
        refine Thn_e ?_
        clear hK K
        refine Thn_e ?_
        refine InB_here ?_
        refine Thn_n ?_
        refine hK _ _ ?_
        clear hK K
        refine AW.seq_k fun K hK => ?_
        refine AW.region (by decide) ?_
        simp only [push_cast, Nat.reduceAdd, Nat.reduceMul, Nat.reduceSub, Nat.reduceLeDiff, Nat.reduceLT, Nat.reduceEqDiff, Nat.reduceBEq, Nat.reduceBNe, Nat.reduceMod, Nat.reduceDiv, Int.reduceLE, Int.reduceLT, Int.reduceToNat, Int.reduceAdd, Int.reduceSub, Int.reduceMul, Int.reduceNeg, Int.reduceEq, Int.reduceBEq, Int.reduceBNe, ↓reduceIte, reduceCtorEq, String.reduceBNe, String.reduceEq, reduceDIte, Nat.reducePow, zN, z0, z2, z4, z5, z6, zw, z7, z8, z9, u3, hc0, u4, x1, x2, x3, x4, x5, hdd, hi2, hnq, hkr]
        refine Thn_n ?_
        refine hK _ _ ?_
        clear hK K
        refine AW.seq_k fun K hK => ?_
        refine AW.seq_k fun K hK => ?_
        refine AW.region (by decide) ?_
        simp only [push_cast, Nat.reduceAdd, Nat.reduceMul, Nat.reduceSub, Nat.reduceLeDiff, Nat.reduceLT, Nat.reduceEqDiff, Nat.reduceBEq, Nat.reduceBNe, Nat.reduceMod, Nat.reduceDiv, Int.reduceLE, Int.reduceLT, Int.reduceToNat, Int.reduceAdd, Int.reduceSub, Int.reduceMul, Int.reduceNeg, Int.reduceEq, Int.reduceBEq, Int.reduceBNe, ↓reduceIte, reduceCtorEq, String.reduceBNe, String.reduceEq, reduceDIte, Nat.reducePow, zN, z0, z2, z4, z5, z6, zw, z7, z8, z9, u3, hc0, u4, x1, x2, x3, x4, x5, hdd, hi2, hnq, hkr]
        refine Thn_n ?_
        refine hK _ _ ?_
        clear hK K
        refine AW.cond_f rfl ?_
        refine AW.skip ?_
        refine Thn_n ?_
        refine hK _ _ ?_
        clear hK K
        refine AW.seq_k fun K hK => ?_
        refine AW.seq_k fun K hK => ?_
        refine AW.region (by decide) ?_
        simp only [push_cast, Nat.reduceAdd, Nat.reduceMul, Nat.reduceSub, Nat.reduceLeDiff, Nat.reduceLT, Nat.reduceEqDiff, Nat.reduceBEq, Nat.reduceBNe, Nat.reduceMod, Nat.reduceDiv, Int.reduceLE, Int.reduceLT, Int.reduceToNat, Int.reduceAdd, Int.reduceSub, Int.reduceMul, Int.reduceNeg, Int.reduceEq, Int.reduceBEq, Int.reduceBNe, ↓reduceIte, reduceCtorEq, String.reduceBNe, String.reduceEq, reduceDIte, Nat.reducePow, zN, z0, z2, z4, z5, z6, zw, z7, z8, z9, u3, hc0, u4, x1, x2, x3, x4, x5, hdd, hi2, hnq, hkr]
        refine CThen.by (hTx) ?_
        simp only [push_cast, Nat.reduceAdd, Nat.reduceMul, Nat.reduceSub, Nat.reduceLeDiff, Nat.reduceLT, Nat.reduceEqDiff, Nat.reduceBEq, Nat.reduceBNe, Nat.reduceMod, Nat.reduceDiv, Int.reduceLE, Int.reduceLT, Int.reduceToNat, Int.reduceAdd, Int.reduceSub, Int.reduceMul, Int.reduceNeg, Int.reduceEq, Int.reduceBEq, Int.reduceBNe, ↓reduceIte, reduceCtorEq, String.reduceBNe, String.reduceEq, reduceDIte, Nat.reducePow, zN, z0, z2, z4, z5, z6, zw, z7, z8, z9, u3, hc0, u4, x1, x2, x3, x4, x5, hdd, hi2, hnq, hkr]
        refine Thn_n ?_
        refine hK _ _ ?_
        clear hK K
        refine AW.cond_f rfl ?_
        refine AW.skip ?_
        refine Thn_n ?_
        refine hK _ _ ?_
        clear hK K
        refine AW.seq_k fun K hK => ?_
        refine AW.region (by decide) ?_
        simp only [push_cast, Nat.reduceAdd, Nat.reduceMul, Nat.reduceSub, Nat.reduceLeDiff, Nat.reduceLT, Nat.reduceEqDiff, Nat.reduceBEq, Nat.reduceBNe, Nat.reduceMod, Nat.reduceDiv, Int.reduceLE, Int.reduceLT, Int.reduceToNat, Int.reduceAdd, Int.reduceSub, Int.reduceMul, Int.reduceNeg, Int.reduceEq, Int.reduceBEq, Int.reduceBNe, ↓reduceIte, reduceCtorEq, String.reduceBNe, String.reduceEq, reduceDIte, Nat.reducePow, zN, z0, z2, z4, z5, z6, zw, z7, z8, z9, u3, hc0, u4, x1, x2, x3, x4, x5, hdd, hi2, hnq, hkr]
        refine Thn_n ?_
        refine hK _ _ ?_
        clear hK K
        refine AW.ret ?_
        refine hQ _ _ _ ?_
        first | refine RetP.drop0 (Or.inr rfl) ?_ ?_ hwf | refine RetP.drop (Or.inr rfl) ?_ ?_ hwf
        · simp only [resA, resOne, resTv, AV.tv, push_cast, Nat.reduceAdd, Nat.reduceMul, Nat.reduceSub, Nat.reduceLeDiff, Nat.reduceLT, Nat.reduceEqDiff, Nat.reduceBEq, Nat.reduceBNe, Nat.reduceMod, Nat.reduceDiv, Int.reduceLE, Int.reduceLT, Int.reduceToNat, Int.reduceAdd, Int.reduceSub, Int.reduceMul, Int.reduceNeg, Int.reduceEq, Int.reduceBEq, Int.reduceBNe, ↓reduceIte, reduceCtorEq, String.reduceBNe, String.reduceEq, reduceDIte, Nat.reducePow, zN, z0, z2, z4, z5, z6, zw, z7, z8, z9, u3, hc0, u4, x1, x2, x3, x4, x5, hdd, hi2, hnq, hkr]
        · rfl
end Go.Proofs.YtlhppfdokgeijaaDoor
