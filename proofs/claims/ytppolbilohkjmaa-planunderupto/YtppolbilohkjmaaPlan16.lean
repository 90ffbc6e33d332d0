/- Walks and facts of this seat's program over abstract states, printed by a program of mine; no conditions but those that each theorem names. -/
import Derived.Test.YtppolbilohkjmaaPlan15
set_option linter.unusedSimpArgs false
set_option linter.unusedVariables false
set_option maxRecDepth 100000
set_option maxHeartbeats 4000000
namespace Go.Proofs.Ytppolbilohkjmaa
open Go Go.Eng

theorem sw_2 {ln : Nat → Nat} {q : Nat → Nat → Int} {s : Nat → Bool} {k : Nat} : swS ln q s (k + 1) = stepS ln q k (swS ln q s k) := rfl
theorem runder_c (rp N : Nat) (ln : Nat → Nat) (q : Nat → Nat → Int) (m : AMem) (hp : RowsAt m rp N ln q) (hl : ∀ i, i < N → ln i ≤ 1048576) (hN : N ≤ 1048576) (hall : AllP N ln q) (i : Nat) (hi : i < N) : Ctr Try.prog 17 [.one (.sl rp 0 0 N), .one (.int .i64 (i : Int))] m (.one (.sl m.length 0 0 (flt (rnS N ln q (s0S ln q i) N) N).length)) (m ++ [⟨.grow, 3, 0, 1, il (flt (rnS N ln q (s0S ln q i) N) N).length (oF (flt (rnS N ln q (s0S ln q i) N) N))⟩]) := by
  refine Ctr.enter Try.func17 rfl (by decide) (rs := [.tmp 4]) (nt := 69) rfl rfl fun hwf Q hQ => ?_
  obtain ⟨k0, v0, ez, rr, hv0, hb, hrows⟩ := hp.hb
  subst hv0
  have hr := get_lt hb
  have hrow := hrows i hi
  obtain ⟨k1, ez1, hb1⟩ := hrow.hb
  have g := rl_get (r := rr) (ln := ln) hi
  have hli := hl i hi
  have i1 : (0 : Int) ≤ (i : Int) := by omega
  have i2 : (i : Int) < (N : Int) := by omega
  have hlt0 : ∀ k, ¬ m.length + k < m.length := fun k => by omega
  have n0 : (0 : Int) ≤ (N : Int) := by omega
  have n2 : (N : Int) ≤ 281474976710656 := by omega
  have hz1 := bl_zero (z := .bool false) (N := N) rfl
  simp only [push_cast, Nat.reduceAdd, Nat.reduceMul, Nat.reduceSub, Nat.reduceLeDiff, Nat.reduceLT, Nat.reduceEqDiff, Nat.reduceBEq, Nat.reduceBNe, Nat.reduceMod, Nat.reduceDiv, Int.reduceLE, Int.reduceLT, Int.reduceToNat, Int.reduceAdd, Int.reduceSub, Int.reduceMul, Int.reduceNeg, Int.reduceEq, Int.reduceBEq, Int.reduceBNe, ↓reduceIte, reduceCtorEq, String.reduceBNe, String.reduceEq, reduceDIte, Nat.reducePow] at hz1
  iterate 2
    refine AW.seq_k fun K hK => ?_
    refine AW.region (by decide) ?_
    simp only [push_cast, Nat.reduceAdd, Nat.reduceMul, Nat.reduceSub, Nat.reduceLeDiff, Nat.reduceLT, Nat.reduceEqDiff, Nat.reduceBEq, Nat.reduceBNe, Nat.reduceMod, Nat.reduceDiv, Int.reduceLE, Int.reduceLT, Int.reduceToNat, Int.reduceAdd, Int.reduceSub, Int.reduceMul, Int.reduceNeg, Int.reduceEq, Int.reduceBEq, Int.reduceBNe, ↓reduceIte, reduceCtorEq, String.reduceBNe, String.reduceEq, reduceDIte, Nat.reducePow, hb, lk_old hb, hb1, lk_old hb1, g, i1, i2, n0, n2, hz1, bl_len, il_len, Int.le_refl, Nat.le_refl, Int.one_mul]
    refine Thn_n ?_
    refine hK _ _ ?_
    clear hK K
  refine AW.seq_k fun K hK => ?_
  refine AW.seq_k fun K hK => ?_
  refine AW.region (by decide) ?_
  simp only [push_cast, Nat.reduceAdd, Nat.reduceMul, Nat.reduceSub, Nat.reduceLeDiff, Nat.reduceLT, Nat.reduceEqDiff, Nat.reduceBEq, Nat.reduceBNe, Nat.reduceMod, Nat.reduceDiv, Int.reduceLE, Int.reduceLT, Int.reduceToNat, Int.reduceAdd, Int.reduceSub, Int.reduceMul, Int.reduceNeg, Int.reduceEq, Int.reduceBEq, Int.reduceBNe, ↓reduceIte, reduceCtorEq, String.reduceBNe, String.reduceEq, reduceDIte, Nat.reducePow, hb, lk_old hb, hb1, lk_old hb1, g, i1, i2, n0, n2, hz1, bl_len, il_len, Int.le_refl, Nat.le_refl, Int.one_mul]
  refine Thn_n ?_
  refine hK _ _ ?_
  clear hK K
  refine AW.block ?_
  refine AW.loopK [0, 1, 5] (fun j => j ≤ ln i) (fun j => [(6, .one (.int .i64 (j : Int)))]) (fun j => [(m.length, ⟨.grow, 4, 0, 1, bl N (mkS q i (fun _ => false) j)⟩)]) (fun j => ln i - j) 0 (by omega) ?_ ?_ fun j hi5 => ?_
  · first | rfl | (simp only [Keeps, Tm.get_cons, Nat.reduceEqDiff, ↓reduceIte, if_true, if_false, ite_true, ite_false, true_and, and_true, and_self, reduceCtorEq, mkS] <;> rfl)
  · first | rfl | (simp only [setAll, push_cast, Nat.reduceAdd, Nat.reduceMul, Nat.reduceSub, Nat.reduceLeDiff, Nat.reduceLT, Nat.reduceEqDiff, Nat.reduceBEq, Nat.reduceBNe, Nat.reduceMod, Nat.reduceDiv, Int.reduceLE, Int.reduceLT, Int.reduceToNat, Int.reduceAdd, Int.reduceSub, Int.reduceMul, Int.reduceNeg, Int.reduceEq, Int.reduceBEq, Int.reduceBNe, ↓reduceIte, reduceCtorEq, String.reduceBNe, String.reduceEq, reduceDIte, Nat.reducePow, hb, lk_old hb, hb1, lk_old hb1, g, i1, i2, n0, n2, hz1, bl_len, il_len, Int.le_refl, Nat.le_refl, Int.one_mul, mkS] <;> rfl)
  try simp only [keepL, setAll, push_cast, Nat.reduceAdd, Nat.reduceMul, Nat.reduceSub, Nat.reduceLeDiff, Nat.reduceLT, Nat.reduceEqDiff, Nat.reduceBEq, Nat.reduceBNe, Nat.reduceMod, Nat.reduceDiv, Int.reduceLE, Int.reduceLT, Int.reduceToNat, Int.reduceAdd, Int.reduceSub, Int.reduceMul, Int.reduceNeg, Int.reduceEq, Int.reduceBEq, Int.reduceBNe, ↓reduceIte, reduceCtorEq, String.reduceBNe, String.reduceEq, reduceDIte, Nat.reducePow, hb, lk_old hb, hb1, lk_old hb1, g, i1, i2, n0, n2, hz1, bl_len, il_len, Int.le_refl, Nat.le_refl, Int.one_mul]
  refine AW.seq_k fun K hK => ?_
  refine AW.seq_k fun K hK => ?_
  refine AW.region (by decide) ?_
  simp only [push_cast, Nat.reduceAdd, Nat.reduceMul, Nat.reduceSub, Nat.reduceLeDiff, Nat.reduceLT, Nat.reduceEqDiff, Nat.reduceBEq, Nat.reduceBNe, Nat.reduceMod, Nat.reduceDiv, Int.reduceLE, Int.reduceLT, Int.reduceToNat, Int.reduceAdd, Int.reduceSub, Int.reduceMul, Int.reduceNeg, Int.reduceEq, Int.reduceBEq, Int.reduceBNe, ↓reduceIte, reduceCtorEq, String.reduceBNe, String.reduceEq, reduceDIte, Nat.reducePow, hb, lk_old hb, hb1, lk_old hb1, g, i1, i2, n0, n2, hz1, bl_len, il_len, Int.le_refl, Nat.le_refl, Int.one_mul]
  refine Thn_n ?_
  refine hK _ _ ?_
  clear hK K
  refine AW.cond rfl (fun h19 => ?_) (fun h19 => ?_)
  · have hjl : j < ln i := by have := of_decide_eq_true h19; omega
    have c1 : (0 : Int) ≤ (j : Int) := by omega
    have c2 : (j : Int) < (ln i : Int) := by omega
    obtain ⟨dN, dq⟩ := all_nd hall hi hjl
    have gj := il_get (f := q i) hjl
    rw [dq] at gj
    have hset : (bl N (mkS q i (fun _ => false) j)).set (nd q i j) (.bool true) = bl N (mkS q i (fun _ => false) (j + 1)) := bl_set
    generalize hdd : nd q i j = d at *
    have e1 : (0 : Int) ≤ (d : Int) := by omega
    have e2 : (d : Int) < (N : Int) := by omega
    have e3 : d + 1 ≤ N := dN
    refine AW.skip ?_
    refine Thn_n ?_
    refine hK _ _ ?_
    clear hK K
    refine AW.seq_k fun K hK => ?_
    refine AW.block ?_
    refine AW.region (by decide) ?_
    simp only [push_cast, Nat.reduceAdd, Nat.reduceMul, Nat.reduceSub, Nat.reduceLeDiff, Nat.reduceLT, Nat.reduceEqDiff, Nat.reduceBEq, Nat.reduceBNe, Nat.reduceMod, Nat.reduceDiv, Int.reduceLE, Int.reduceLT, Int.reduceToNat, Int.reduceAdd, Int.reduceSub, Int.reduceMul, Int.reduceNeg, Int.reduceEq, Int.reduceBEq, Int.reduceBNe, ↓reduceIte, reduceCtorEq, String.reduceBNe, String.reduceEq, reduceDIte, Nat.reducePow, hb, lk_old hb, hb1, lk_old hb1, g, i1, i2, n0, n2, hz1, bl_len, il_len, Int.le_refl, Nat.le_refl, Int.one_mul, c1, c2, gj, e1, e2, e3, hset]
    refine InB_n ?_
    refine Thn_n ?_
    refine hK _ _ ?_
    clear hK K
    refine AW.region (by decide) ?_
    simp only [push_cast, Nat.reduceAdd, Nat.reduceMul, Nat.reduceSub, Nat.reduceLeDiff, Nat.reduceLT, Nat.reduceEqDiff, Nat.reduceBEq, Nat.reduceBNe, Nat.reduceMod, Nat.reduceDiv, Int.reduceLE, Int.reduceLT, Int.reduceToNat, Int.reduceAdd, Int.reduceSub, Int.reduceMul, Int.reduceNeg, Int.reduceEq, Int.reduceBEq, Int.reduceBNe, ↓reduceIte, reduceCtorEq, String.reduceBNe, String.reduceEq, reduceDIte, Nat.reducePow, hb, lk_old hb, hb1, lk_old hb1, g, i1, i2, n0, n2, hz1, bl_len, il_len, Int.le_refl, Nat.le_refl, Int.one_mul, c1, c2, gj, e1, e2, e3, hset]
    refine Thn_n ?_
    have hwi : IntKind.i64.wrap ((j:Int)+1) = (j:Int)+1 := by rw [IntKind.wrap_i64]; omega
    refine ⟨j + 1, by omega, by omega, ?_⟩
    try simp only [keepL, setAll, push_cast, Nat.reduceAdd, Nat.reduceMul, Nat.reduceSub, Nat.reduceLeDiff, Nat.reduceLT, Nat.reduceEqDiff, Nat.reduceBEq, Nat.reduceBNe, Nat.reduceMod, Nat.reduceDiv, Int.reduceLE, Int.reduceLT, Int.reduceToNat, Int.reduceAdd, Int.reduceSub, Int.reduceMul, Int.reduceNeg, Int.reduceEq, Int.reduceBEq, Int.reduceBNe, ↓reduceIte, reduceCtorEq, String.reduceBNe, String.reduceEq, reduceDIte, Nat.reducePow, hb, lk_old hb, hb1, lk_old hb1, g, i1, i2, n0, n2, hz1, bl_len, il_len, Int.le_refl, Nat.le_refl, Int.one_mul, c1, c2, gj, e1, e2, e3, hset, hwi, hset]
    exact Weak.same (by simp only [Keeps, Tm.get_cons, Nat.reduceEqDiff, ↓reduceIte, if_true, if_false, ite_true, ite_false, true_and, and_true, and_self, reduceCtorEq, hwi, hset]) (by first | rfl | simp only [Keeps, Tm.get_cons, Nat.reduceEqDiff, ↓reduceIte, if_true, if_false, ite_true, ite_false, true_and, and_true, and_self, reduceCtorEq, hwi, hset])
  · have hin : ln i = j := by have := of_decide_eq_false h19; omega
    subst hin
    refine AW.exit ?_
    refine Thn_e ?_
    clear hK K
    refine Thn_e ?_
    refine InB_here ?_
    refine Thn_n ?_
    refine hK _ _ ?_
    clear hK K
    refine AW.seq_k fun K hK => ?_
    refine AW.seq_k fun K hK => ?_
    refine AW.region (by decide) ?_
    simp only [push_cast, Nat.reduceAdd, Nat.reduceMul, Nat.reduceSub, Nat.reduceLeDiff, Nat.reduceLT, Nat.reduceEqDiff, Nat.reduceBEq, Nat.reduceBNe, Nat.reduceMod, Nat.reduceDiv, Int.reduceLE, Int.reduceLT, Int.reduceToNat, Int.reduceAdd, Int.reduceSub, Int.reduceMul, Int.reduceNeg, Int.reduceEq, Int.reduceBEq, Int.reduceBNe, ↓reduceIte, reduceCtorEq, String.reduceBNe, String.reduceEq, reduceDIte, Nat.reducePow, hb, lk_old hb, hb1, lk_old hb1, g, i1, i2, n0, n2, hz1, bl_len, il_len, Int.le_refl, Nat.le_refl, Int.one_mul]
    refine Thn_n ?_
    refine hK _ _ ?_
    clear hK K
    refine AW.block ?_
    refine AW.loopK [0, 5] (fun r => r ≤ N) (fun r => [(7, .one (.int .i64 (r : Int)))]) (fun r => [(m.length, ⟨.grow, 4, 0, 1, bl N (rnS N ln q (s0S ln q i) r)⟩)]) (fun r => N - r) 0 (by omega) ?_ ?_ fun r hi11 => ?_
    · first | rfl | (simp only [Keeps, Tm.get_cons, Nat.reduceEqDiff, ↓reduceIte, if_true, if_false, ite_true, ite_false, true_and, and_true, and_self, reduceCtorEq, rnS, s0S] <;> rfl)
    · first | rfl | (simp only [setAll, push_cast, Nat.reduceAdd, Nat.reduceMul, Nat.reduceSub, Nat.reduceLeDiff, Nat.reduceLT, Nat.reduceEqDiff, Nat.reduceBEq, Nat.reduceBNe, Nat.reduceMod, Nat.reduceDiv, Int.reduceLE, Int.reduceLT, Int.reduceToNat, Int.reduceAdd, Int.reduceSub, Int.reduceMul, Int.reduceNeg, Int.reduceEq, Int.reduceBEq, Int.reduceBNe, ↓reduceIte, reduceCtorEq, String.reduceBNe, String.reduceEq, reduceDIte, Nat.reducePow, hb, lk_old hb, hb1, lk_old hb1, g, i1, i2, n0, n2, hz1, bl_len, il_len, Int.le_refl, Nat.le_refl, Int.one_mul, rnS, s0S] <;> rfl)
    try simp only [keepL, setAll, push_cast, Nat.reduceAdd, Nat.reduceMul, Nat.reduceSub, Nat.reduceLeDiff, Nat.reduceLT, Nat.reduceEqDiff, Nat.reduceBEq, Nat.reduceBNe, Nat.reduceMod, Nat.reduceDiv, Int.reduceLE, Int.reduceLT, Int.reduceToNat, Int.reduceAdd, Int.reduceSub, Int.reduceMul, Int.reduceNeg, Int.reduceEq, Int.reduceBEq, Int.reduceBNe, ↓reduceIte, reduceCtorEq, String.reduceBNe, String.reduceEq, reduceDIte, Nat.reducePow, hb, lk_old hb, hb1, lk_old hb1, g, i1, i2, n0, n2, hz1, bl_len, il_len, Int.le_refl, Nat.le_refl, Int.one_mul]
    refine AW.seq_k fun K hK => ?_
    refine AW.seq_k fun K hK => ?_
    refine AW.region (by decide) ?_
    simp only [push_cast, Nat.reduceAdd, Nat.reduceMul, Nat.reduceSub, Nat.reduceLeDiff, Nat.reduceLT, Nat.reduceEqDiff, Nat.reduceBEq, Nat.reduceBNe, Nat.reduceMod, Nat.reduceDiv, Int.reduceLE, Int.reduceLT, Int.reduceToNat, Int.reduceAdd, Int.reduceSub, Int.reduceMul, Int.reduceNeg, Int.reduceEq, Int.reduceBEq, Int.reduceBNe, ↓reduceIte, reduceCtorEq, String.reduceBNe, String.reduceEq, reduceDIte, Nat.reducePow, hb, lk_old hb, hb1, lk_old hb1, g, i1, i2, n0, n2, hz1, bl_len, il_len, Int.le_refl, Nat.le_refl, Int.one_mul]
    refine Thn_n ?_
    refine hK _ _ ?_
    clear hK K
    refine AW.cond rfl (fun h34 => ?_) (fun h34 => ?_)
    · have hrN : r < N := by have := of_decide_eq_true h34; omega
      refine AW.skip ?_
      refine Thn_n ?_
      refine hK _ _ ?_
      clear hK K
      refine AW.seq_k fun K hK => ?_
      refine AW.block ?_
      refine AW.seq_k fun K hK => ?_
      refine AW.region (by decide) ?_
      simp only [push_cast, Nat.reduceAdd, Nat.reduceMul, Nat.reduceSub, Nat.reduceLeDiff, Nat.reduceLT, Nat.reduceEqDiff, Nat.reduceBEq, Nat.reduceBNe, Nat.reduceMod, Nat.reduceDiv, Int.reduceLE, Int.reduceLT, Int.reduceToNat, Int.reduceAdd, Int.reduceSub, Int.reduceMul, Int.reduceNeg, Int.reduceEq, Int.reduceBEq, Int.reduceBNe, ↓reduceIte, reduceCtorEq, String.reduceBNe, String.reduceEq, reduceDIte, Nat.reducePow, hb, lk_old hb, hb1, lk_old hb1, g, i1, i2, n0, n2, hz1, bl_len, il_len, Int.le_refl, Nat.le_refl, Int.one_mul]
      refine Thn_n ?_
      refine hK _ _ ?_
      clear hK K
      refine AW.block ?_
      refine AW.loopK [0, 5, 7] (fun k => k ≤ N) (fun k => [(8, .one (.int .i64 (k : Int)))]) (fun k => [(m.length, ⟨.grow, 4, 0, 1, bl N (swS ln q (rnS N ln q (s0S ln q i) r) k)⟩)]) (fun k => N - k) 0 (by omega) ?_ ?_ fun k hi16 => ?_
      · first | rfl | (simp only [Keeps, Tm.get_cons, Nat.reduceEqDiff, ↓reduceIte, if_true, if_false, ite_true, ite_false, true_and, and_true, and_self, reduceCtorEq, swS] <;> rfl)
      · first | rfl | (simp only [setAll, push_cast, Nat.reduceAdd, Nat.reduceMul, Nat.reduceSub, Nat.reduceLeDiff, Nat.reduceLT, Nat.reduceEqDiff, Nat.reduceBEq, Nat.reduceBNe, Nat.reduceMod, Nat.reduceDiv, Int.reduceLE, Int.reduceLT, Int.reduceToNat, Int.reduceAdd, Int.reduceSub, Int.reduceMul, Int.reduceNeg, Int.reduceEq, Int.reduceBEq, Int.reduceBNe, ↓reduceIte, reduceCtorEq, String.reduceBNe, String.reduceEq, reduceDIte, Nat.reducePow, hb, lk_old hb, hb1, lk_old hb1, g, i1, i2, n0, n2, hz1, bl_len, il_len, Int.le_refl, Nat.le_refl, Int.one_mul, swS] <;> rfl)
      try simp only [keepL, setAll, push_cast, Nat.reduceAdd, Nat.reduceMul, Nat.reduceSub, Nat.reduceLeDiff, Nat.reduceLT, Nat.reduceEqDiff, Nat.reduceBEq, Nat.reduceBNe, Nat.reduceMod, Nat.reduceDiv, Int.reduceLE, Int.reduceLT, Int.reduceToNat, Int.reduceAdd, Int.reduceSub, Int.reduceMul, Int.reduceNeg, Int.reduceEq, Int.reduceBEq, Int.reduceBNe, ↓reduceIte, reduceCtorEq, String.reduceBNe, String.reduceEq, reduceDIte, Nat.reducePow, hb, lk_old hb, hb1, lk_old hb1, g, i1, i2, n0, n2, hz1, bl_len, il_len, Int.le_refl, Nat.le_refl, Int.one_mul]
      refine AW.seq_k fun K hK => ?_
      refine AW.seq_k fun K hK => ?_
      refine AW.region (by decide) ?_
      simp only [push_cast, Nat.reduceAdd, Nat.reduceMul, Nat.reduceSub, Nat.reduceLeDiff, Nat.reduceLT, Nat.reduceEqDiff, Nat.reduceBEq, Nat.reduceBNe, Nat.reduceMod, Nat.reduceDiv, Int.reduceLE, Int.reduceLT, Int.reduceToNat, Int.reduceAdd, Int.reduceSub, Int.reduceMul, Int.reduceNeg, Int.reduceEq, Int.reduceBEq, Int.reduceBNe, ↓reduceIte, reduceCtorEq, String.reduceBNe, String.reduceEq, reduceDIte, Nat.reducePow, hb, lk_old hb, hb1, lk_old hb1, g, i1, i2, n0, n2, hz1, bl_len, il_len, Int.le_refl, Nat.le_refl, Int.one_mul]
      refine Thn_n ?_
      refine hK _ _ ?_
      clear hK K
      refine AW.cond rfl (fun h40 => ?_) (fun h40 => ?_)
      · have hkl : k < N := by have := of_decide_eq_true h40; omega
        have c1 : (0 : Int) ≤ (k : Int) := by omega
        have c2 : (k : Int) < (N : Int) := by omega
        have gk := bl_get (f := swS ln q (rnS N ln q (s0S ln q i) r) k) hkl
        have grk := rl_get (r := rr) (ln := ln) hkl
        obtain ⟨k2, ez2, hb2⟩ := (hrows k hkl).hb
        have hlk := hl k hkl
        cases hsk : (swS ln q (rnS N ln q (s0S ln q i) r) k) k
        · rw [hsk] at gk
          refine AW.skip ?_
          refine Thn_n ?_
          refine hK _ _ ?_
          clear hK K
          refine AW.seq_k fun K hK => ?_
          refine AW.block ?_
          refine AW.seq_k fun K hK => ?_
          refine AW.region (by decide) ?_
          simp only [push_cast, Nat.reduceAdd, Nat.reduceMul, Nat.reduceSub, Nat.reduceLeDiff, Nat.reduceLT, Nat.reduceEqDiff, Nat.reduceBEq, Nat.reduceBNe, Nat.reduceMod, Nat.reduceDiv, Int.reduceLE, Int.reduceLT, Int.reduceToNat, Int.reduceAdd, Int.reduceSub, Int.reduceMul, Int.reduceNeg, Int.reduceEq, Int.reduceBEq, Int.reduceBNe, ↓reduceIte, reduceCtorEq, String.reduceBNe, String.reduceEq, reduceDIte, Nat.reducePow, hb, lk_old hb, hb1, lk_old hb1, g, i1, i2, n0, n2, hz1, bl_len, il_len, Int.le_refl, Nat.le_refl, Int.one_mul, c1, c2, gk, grk, hb2, lk_old hb2]
          refine Thn_n ?_
          refine hK _ _ ?_
          clear hK K
          refine AW.block ?_
          refine AW.loopK [0, 5, 7, 8] (fun j => j = (0 : Nat)) (fun j => [(9, .one (.int .i64 (j : Int)))]) (fun j => []) (fun j => (0 : Nat) - j) 0 (by omega) ?_ ?_ fun j hi21 => ?_
          · first | rfl | (simp only [Keeps, Tm.get_cons, Nat.reduceEqDiff, ↓reduceIte, if_true, if_false, ite_true, ite_false, true_and, and_true, and_self, reduceCtorEq, mkS] <;> rfl)
          · first | rfl | (simp only [setAll, push_cast, Nat.reduceAdd, Nat.reduceMul, Nat.reduceSub, Nat.reduceLeDiff, Nat.reduceLT, Nat.reduceEqDiff, Nat.reduceBEq, Nat.reduceBNe, Nat.reduceMod, Nat.reduceDiv, Int.reduceLE, Int.reduceLT, Int.reduceToNat, Int.reduceAdd, Int.reduceSub, Int.reduceMul, Int.reduceNeg, Int.reduceEq, Int.reduceBEq, Int.reduceBNe, ↓reduceIte, reduceCtorEq, String.reduceBNe, String.reduceEq, reduceDIte, Nat.reducePow, hb, lk_old hb, hb1, lk_old hb1, g, i1, i2, n0, n2, hz1, bl_len, il_len, Int.le_refl, Nat.le_refl, Int.one_mul, c1, c2, gk, grk, hb2, lk_old hb2, mkS] <;> rfl)
          try simp only [keepL, setAll, push_cast, Nat.reduceAdd, Nat.reduceMul, Nat.reduceSub, Nat.reduceLeDiff, Nat.reduceLT, Nat.reduceEqDiff, Nat.reduceBEq, Nat.reduceBNe, Nat.reduceMod, Nat.reduceDiv, Int.reduceLE, Int.reduceLT, Int.reduceToNat, Int.reduceAdd, Int.reduceSub, Int.reduceMul, Int.reduceNeg, Int.reduceEq, Int.reduceBEq, Int.reduceBNe, ↓reduceIte, reduceCtorEq, String.reduceBNe, String.reduceEq, reduceDIte, Nat.reducePow, hb, lk_old hb, hb1, lk_old hb1, g, i1, i2, n0, n2, hz1, bl_len, il_len, Int.le_refl, Nat.le_refl, Int.one_mul, c1, c2, gk, grk, hb2, lk_old hb2]
          refine AW.seq_k fun K hK => ?_
          refine AW.seq_k fun K hK => ?_
          refine AW.region (by decide) ?_
          simp only [push_cast, Nat.reduceAdd, Nat.reduceMul, Nat.reduceSub, Nat.reduceLeDiff, Nat.reduceLT, Nat.reduceEqDiff, Nat.reduceBEq, Nat.reduceBNe, Nat.reduceMod, Nat.reduceDiv, Int.reduceLE, Int.reduceLT, Int.reduceToNat, Int.reduceAdd, Int.reduceSub, Int.reduceMul, Int.reduceNeg, Int.reduceEq, Int.reduceBEq, Int.reduceBNe, ↓reduceIte, reduceCtorEq, String.reduceBNe, String.reduceEq, reduceDIte, Nat.reducePow, hb, lk_old hb, hb1, lk_old hb1, g, i1, i2, n0, n2, hz1, bl_len, il_len, Int.le_refl, Nat.le_refl, Int.one_mul, c1, c2, gk, grk, hb2, lk_old hb2]
          refine Thn_n ?_
          refine hK _ _ ?_
          clear hK K
          refine AW.cond_f rfl ?_
          refine AW.exit ?_
          refine Thn_e ?_
          clear hK K
          refine Thn_e ?_
          refine InB_here ?_
          refine InB_n ?_
          refine Thn_n ?_
          refine hK _ _ ?_
          clear hK K
          refine AW.region (by decide) ?_
          simp only [push_cast, Nat.reduceAdd, Nat.reduceMul, Nat.reduceSub, Nat.reduceLeDiff, Nat.reduceLT, Nat.reduceEqDiff, Nat.reduceBEq, Nat.reduceBNe, Nat.reduceMod, Nat.reduceDiv, Int.reduceLE, Int.reduceLT, Int.reduceToNat, Int.reduceAdd, Int.reduceSub, Int.reduceMul, Int.reduceNeg, Int.reduceEq, Int.reduceBEq, Int.reduceBNe, ↓reduceIte, reduceCtorEq, String.reduceBNe, String.reduceEq, reduceDIte, Nat.reducePow, hb, lk_old hb, hb1, lk_old hb1, g, i1, i2, n0, n2, hz1, bl_len, il_len, Int.le_refl, Nat.le_refl, Int.one_mul, c1, c2, gk, grk, hb2, lk_old hb2]
          refine Thn_n ?_
          have hwi : IntKind.i64.wrap ((k:Int)+1) = (k:Int)+1 := by rw [IntKind.wrap_i64]; omega
          refine ⟨k + 1, by omega, by omega, ?_⟩
          try simp only [keepL, setAll, push_cast, Nat.reduceAdd, Nat.reduceMul, Nat.reduceSub, Nat.reduceLeDiff, Nat.reduceLT, Nat.reduceEqDiff, Nat.reduceBEq, Nat.reduceBNe, Nat.reduceMod, Nat.reduceDiv, Int.reduceLE, Int.reduceLT, Int.reduceToNat, Int.reduceAdd, Int.reduceSub, Int.reduceMul, Int.reduceNeg, Int.reduceEq, Int.reduceBEq, Int.reduceBNe, ↓reduceIte, reduceCtorEq, String.reduceBNe, String.reduceEq, reduceDIte, Nat.reducePow, hb, lk_old hb, hb1, lk_old hb1, g, i1, i2, n0, n2, hz1, bl_len, il_len, Int.le_refl, Nat.le_refl, Int.one_mul, c1, c2, gk, grk, hb2, lk_old hb2, hwi, sw_2, stepS, hsk, if_true, if_false, Bool.false_eq_true]
          exact Weak.same (by simp only [Keeps, Tm.get_cons, Nat.reduceEqDiff, ↓reduceIte, if_true, if_false, ite_true, ite_false, true_and, and_true, and_self, reduceCtorEq, hwi, sw_2, stepS, hsk, if_true, if_false, Bool.false_eq_true]) (by first | rfl | simp only [Keeps, Tm.get_cons, Nat.reduceEqDiff, ↓reduceIte, if_true, if_false, ite_true, ite_false, true_and, and_true, and_self, reduceCtorEq, hwi, sw_2, stepS, hsk, if_true, if_false, Bool.false_eq_true])
        · rw [hsk] at gk
          have gkk : ∀ j, (bl N (mkS q k (swS ln q (rnS N ln q (s0S ln q i) r) k) j))[k]? = some (.bool true) := fun j => by rw [bl_get hkl, mk_up hsk j]
          refine AW.skip ?_
          refine Thn_n ?_
          refine hK _ _ ?_
          clear hK K
          refine AW.seq_k fun K hK => ?_
          refine AW.block ?_
          refine AW.seq_k fun K hK => ?_
          refine AW.region (by decide) ?_
          simp only [push_cast, Nat.reduceAdd, Nat.reduceMul, Nat.reduceSub, Nat.reduceLeDiff, Nat.reduceLT, Nat.reduceEqDiff, Nat.reduceBEq, Nat.reduceBNe, Nat.reduceMod, Nat.reduceDiv, Int.reduceLE, Int.reduceLT, Int.reduceToNat, Int.reduceAdd, Int.reduceSub, Int.reduceMul, Int.reduceNeg, Int.reduceEq, Int.reduceBEq, Int.reduceBNe, ↓reduceIte, reduceCtorEq, String.reduceBNe, String.reduceEq, reduceDIte, Nat.reducePow, hb, lk_old hb, hb1, lk_old hb1, g, i1, i2, n0, n2, hz1, bl_len, il_len, Int.le_refl, Nat.le_refl, Int.one_mul, c1, c2, gk, grk, hb2, lk_old hb2, gkk]
          refine Thn_n ?_
          refine hK _ _ ?_
          clear hK K
          refine AW.block ?_
          refine AW.loopK [0, 5, 7, 8] (fun j => j ≤ ln k) (fun j => [(9, .one (.int .i64 (j : Int)))]) (fun j => [(m.length, ⟨.grow, 4, 0, 1, bl N (mkS q k (swS ln q (rnS N ln q (s0S ln q i) r) k) j)⟩)]) (fun j => ln k - j) 0 (by omega) ?_ ?_ fun j hi26 => ?_
          · first | rfl | (simp only [Keeps, Tm.get_cons, Nat.reduceEqDiff, ↓reduceIte, if_true, if_false, ite_true, ite_false, true_and, and_true, and_self, reduceCtorEq, mkS] <;> rfl)
          · first | rfl | (simp only [setAll, push_cast, Nat.reduceAdd, Nat.reduceMul, Nat.reduceSub, Nat.reduceLeDiff, Nat.reduceLT, Nat.reduceEqDiff, Nat.reduceBEq, Nat.reduceBNe, Nat.reduceMod, Nat.reduceDiv, Int.reduceLE, Int.reduceLT, Int.reduceToNat, Int.reduceAdd, Int.reduceSub, Int.reduceMul, Int.reduceNeg, Int.reduceEq, Int.reduceBEq, Int.reduceBNe, ↓reduceIte, reduceCtorEq, String.reduceBNe, String.reduceEq, reduceDIte, Nat.reducePow, hb, lk_old hb, hb1, lk_old hb1, g, i1, i2, n0, n2, hz1, bl_len, il_len, Int.le_refl, Nat.le_refl, Int.one_mul, c1, c2, gk, grk, hb2, lk_old hb2, gkk, mkS] <;> rfl)
          try simp only [keepL, setAll, push_cast, Nat.reduceAdd, Nat.reduceMul, Nat.reduceSub, Nat.reduceLeDiff, Nat.reduceLT, Nat.reduceEqDiff, Nat.reduceBEq, Nat.reduceBNe, Nat.reduceMod, Nat.reduceDiv, Int.reduceLE, Int.reduceLT, Int.reduceToNat, Int.reduceAdd, Int.reduceSub, Int.reduceMul, Int.reduceNeg, Int.reduceEq, Int.reduceBEq, Int.reduceBNe, ↓reduceIte, reduceCtorEq, String.reduceBNe, String.reduceEq, reduceDIte, Nat.reducePow, hb, lk_old hb, hb1, lk_old hb1, g, i1, i2, n0, n2, hz1, bl_len, il_len, Int.le_refl, Nat.le_refl, Int.one_mul, c1, c2, gk, grk, hb2, lk_old hb2, gkk]
          refine AW.seq_k fun K hK => ?_
          refine AW.seq_k fun K hK => ?_
          refine AW.region (by decide) ?_
          simp only [push_cast, Nat.reduceAdd, Nat.reduceMul, Nat.reduceSub, Nat.reduceLeDiff, Nat.reduceLT, Nat.reduceEqDiff, Nat.reduceBEq, Nat.reduceBNe, Nat.reduceMod, Nat.reduceDiv, Int.reduceLE, Int.reduceLT, Int.reduceToNat, Int.reduceAdd, Int.reduceSub, Int.reduceMul, Int.reduceNeg, Int.reduceEq, Int.reduceBEq, Int.reduceBNe, ↓reduceIte, reduceCtorEq, String.reduceBNe, String.reduceEq, reduceDIte, Nat.reducePow, hb, lk_old hb, hb1, lk_old hb1, g, i1, i2, n0, n2, hz1, bl_len, il_len, Int.le_refl, Nat.le_refl, Int.one_mul, c1, c2, gk, grk, hb2, lk_old hb2, gkk]
          refine Thn_n ?_
          refine hK _ _ ?_
          clear hK K
          refine AW.cond rfl (fun h55 => ?_) (fun h55 => ?_)
          · have hjl : j < ln k := by have := of_decide_eq_true h55; omega
            have d1 : (0 : Int) ≤ (j : Int) := by omega
            have d2 : (j : Int) < (ln k : Int) := by omega
            obtain ⟨dN, dq⟩ := all_nd hall hkl hjl
            have gj := il_get (f := q k) hjl
            rw [dq] at gj
            have hset : (bl N (mkS q k (swS ln q (rnS N ln q (s0S ln q i) r) k) j)).set (nd q k j) (.bool true) = bl N (mkS q k (swS ln q (rnS N ln q (s0S ln q i) r) k) (j + 1)) := bl_set
            generalize hdd : nd q k j = d at *
            have e1 : (0 : Int) ≤ (d : Int) := by omega
            have e2 : (d : Int) < (N : Int) := by omega
            have e3 : d + 1 ≤ N := dN
            refine AW.skip ?_
            refine Thn_n ?_
            refine hK _ _ ?_
            clear hK K
            refine AW.seq_k fun K hK => ?_
            refine AW.block ?_
            refine AW.region (by decide) ?_
            simp only [push_cast, Nat.reduceAdd, Nat.reduceMul, Nat.reduceSub, Nat.reduceLeDiff, Nat.reduceLT, Nat.reduceEqDiff, Nat.reduceBEq, Nat.reduceBNe, Nat.reduceMod, Nat.reduceDiv, Int.reduceLE, Int.reduceLT, Int.reduceToNat, Int.reduceAdd, Int.reduceSub, Int.reduceMul, Int.reduceNeg, Int.reduceEq, Int.reduceBEq, Int.reduceBNe, ↓reduceIte, reduceCtorEq, String.reduceBNe, String.reduceEq, reduceDIte, Nat.reducePow, hb, lk_old hb, hb1, lk_old hb1, g, i1, i2, n0, n2, hz1, bl_len, il_len, Int.le_refl, Nat.le_refl, Int.one_mul, c1, c2, gk, grk, hb2, lk_old hb2, gkk, d1, d2, gj, e1, e2, e3, hset]
            refine InB_n ?_
            refine Thn_n ?_
            refine hK _ _ ?_
            clear hK K
            refine AW.region (by decide) ?_
            simp only [push_cast, Nat.reduceAdd, Nat.reduceMul, Nat.reduceSub, Nat.reduceLeDiff, Nat.reduceLT, Nat.reduceEqDiff, Nat.reduceBEq, Nat.reduceBNe, Nat.reduceMod, Nat.reduceDiv, Int.reduceLE, Int.reduceLT, Int.reduceToNat, Int.reduceAdd, Int.reduceSub, Int.reduceMul, Int.reduceNeg, Int.reduceEq, Int.reduceBEq, Int.reduceBNe, ↓reduceIte, reduceCtorEq, String.reduceBNe, String.reduceEq, reduceDIte, Nat.reducePow, hb, lk_old hb, hb1, lk_old hb1, g, i1, i2, n0, n2, hz1, bl_len, il_len, Int.le_refl, Nat.le_refl, Int.one_mul, c1, c2, gk, grk, hb2, lk_old hb2, gkk, d1, d2, gj, e1, e2, e3, hset]
            refine Thn_n ?_
            have hwi : IntKind.i64.wrap ((j:Int)+1) = (j:Int)+1 := by rw [IntKind.wrap_i64]; omega
            refine ⟨j + 1, by omega, by omega, ?_⟩
            try simp only [keepL, setAll, push_cast, Nat.reduceAdd, Nat.reduceMul, Nat.reduceSub, Nat.reduceLeDiff, Nat.reduceLT, Nat.reduceEqDiff, Nat.reduceBEq, Nat.reduceBNe, Nat.reduceMod, Nat.reduceDiv, Int.reduceLE, Int.reduceLT, Int.reduceToNat, Int.reduceAdd, Int.reduceSub, Int.reduceMul, Int.reduceNeg, Int.reduceEq, Int.reduceBEq, Int.reduceBNe, ↓reduceIte, reduceCtorEq, String.reduceBNe, String.reduceEq, reduceDIte, Nat.reducePow, hb, lk_old hb, hb1, lk_old hb1, g, i1, i2, n0, n2, hz1, bl_len, il_len, Int.le_refl, Nat.le_refl, Int.one_mul, c1, c2, gk, grk, hb2, lk_old hb2, gkk, d1, d2, gj, e1, e2, e3, hset, hwi, hset]
            exact Weak.same (by simp only [Keeps, Tm.get_cons, Nat.reduceEqDiff, ↓reduceIte, if_true, if_false, ite_true, ite_false, true_and, and_true, and_self, reduceCtorEq, hwi, hset]) (by first | rfl | simp only [Keeps, Tm.get_cons, Nat.reduceEqDiff, ↓reduceIte, if_true, if_false, ite_true, ite_false, true_and, and_true, and_self, reduceCtorEq, hwi, hset])
          · have hin : ln k = j := by have := of_decide_eq_false h55; omega
            subst hin
            refine AW.exit ?_
            refine Thn_e ?_
            clear hK K
            refine Thn_e ?_
            refine InB_here ?_
            refine InB_n ?_
            refine Thn_n ?_
            refine hK _ _ ?_
            clear hK K
            refine AW.region (by decide) ?_
            simp only [push_cast, Nat.reduceAdd, Nat.reduceMul, Nat.reduceSub, Nat.reduceLeDiff, Nat.reduceLT, Nat.reduceEqDiff, Nat.reduceBEq, Nat.reduceBNe, Nat.reduceMod, Nat.reduceDiv, Int.reduceLE, Int.reduceLT, Int.reduceToNat, Int.reduceAdd, Int.reduceSub, Int.reduceMul, Int.reduceNeg, Int.reduceEq, Int.reduceBEq, Int.reduceBNe, ↓reduceIte, reduceCtorEq, String.reduceBNe, String.reduceEq, reduceDIte, Nat.reducePow, hb, lk_old hb, hb1, lk_old hb1, g, i1, i2, n0, n2, hz1, bl_len, il_len, Int.le_refl, Nat.le_refl, Int.one_mul, c1, c2, gk, grk, hb2, lk_old hb2, gkk]
            refine Thn_n ?_
            have hwi : IntKind.i64.wrap ((k:Int)+1) = (k:Int)+1 := by rw [IntKind.wrap_i64]; omega
            refine ⟨k + 1, by omega, by omega, ?_⟩
            try simp only [keepL, setAll, push_cast, Nat.reduceAdd, Nat.reduceMul, Nat.reduceSub, Nat.reduceLeDiff, Nat.reduceLT, Nat.reduceEqDiff, Nat.reduceBEq, Nat.reduceBNe, Nat.reduceMod, Nat.reduceDiv, Int.reduceLE, Int.reduceLT, Int.reduceToNat, Int.reduceAdd, Int.reduceSub, Int.reduceMul, Int.reduceNeg, Int.reduceEq, Int.reduceBEq, Int.reduceBNe, ↓reduceIte, reduceCtorEq, String.reduceBNe, String.reduceEq, reduceDIte, Nat.reducePow, hb, lk_old hb, hb1, lk_old hb1, g, i1, i2, n0, n2, hz1, bl_len, il_len, Int.le_refl, Nat.le_refl, Int.one_mul, c1, c2, gk, grk, hb2, lk_old hb2, gkk, hwi, sw_2, stepS, hsk, if_true, if_false, Bool.false_eq_true]
            exact Weak.same (by simp only [Keeps, Tm.get_cons, Nat.reduceEqDiff, ↓reduceIte, if_true, if_false, ite_true, ite_false, true_and, and_true, and_self, reduceCtorEq, hwi, sw_2, stepS, hsk, if_true, if_false, Bool.false_eq_true]) (by first | rfl | simp only [Keeps, Tm.get_cons, Nat.reduceEqDiff, ↓reduceIte, if_true, if_false, ite_true, ite_false, true_and, and_true, and_self, reduceCtorEq, hwi, sw_2, stepS, hsk, if_true, if_false, Bool.false_eq_true])
      · have hin : N = k := by have := of_decide_eq_false h40; omega
        subst hin
        refine AW.exit ?_
        refine Thn_e ?_
        clear hK K
        refine Thn_e ?_
        refine InB_here ?_
        refine InB_n ?_
        refine Thn_n ?_
        refine hK _ _ ?_
        clear hK K
        refine AW.region (by decide) ?_
        simp only [push_cast, Nat.reduceAdd, Nat.reduceMul, Nat.reduceSub, Nat.reduceLeDiff, Nat.reduceLT, Nat.reduceEqDiff, Nat.reduceBEq, Nat.reduceBNe, Nat.reduceMod, Nat.reduceDiv, Int.reduceLE, Int.reduceLT, Int.reduceToNat, Int.reduceAdd, Int.reduceSub, Int.reduceMul, Int.reduceNeg, Int.reduceEq, Int.reduceBEq, Int.reduceBNe, ↓reduceIte, reduceCtorEq, String.reduceBNe, String.reduceEq, reduceDIte, Nat.reducePow, hb, lk_old hb, hb1, lk_old hb1, g, i1, i2, n0, n2, hz1, bl_len, il_len, Int.le_refl, Nat.le_refl, Int.one_mul]
        refine Thn_n ?_
        have hwi : IntKind.i64.wrap ((r:Int)+1) = (r:Int)+1 := by rw [IntKind.wrap_i64]; omega
        refine ⟨r + 1, by omega, by omega, ?_⟩
        try simp only [keepL, setAll, push_cast, Nat.reduceAdd, Nat.reduceMul, Nat.reduceSub, Nat.reduceLeDiff, Nat.reduceLT, Nat.reduceEqDiff, Nat.reduceBEq, Nat.reduceBNe, Nat.reduceMod, Nat.reduceDiv, Int.reduceLE, Int.reduceLT, Int.reduceToNat, Int.reduceAdd, Int.reduceSub, Int.reduceMul, Int.reduceNeg, Int.reduceEq, Int.reduceBEq, Int.reduceBNe, ↓reduceIte, reduceCtorEq, String.reduceBNe, String.reduceEq, reduceDIte, Nat.reducePow, hb, lk_old hb, hb1, lk_old hb1, g, i1, i2, n0, n2, hz1, bl_len, il_len, Int.le_refl, Nat.le_refl, Int.one_mul, hwi, rnS]
        exact Weak.same (by simp only [Keeps, Tm.get_cons, Nat.reduceEqDiff, ↓reduceIte, if_true, if_false, ite_true, ite_false, true_and, and_true, and_self, reduceCtorEq, hwi, rnS]) (by first | rfl | simp only [Keeps, Tm.get_cons, Nat.reduceEqDiff, ↓reduceIte, if_true, if_false, ite_true, ite_false, true_and, and_true, and_self, reduceCtorEq, hwi, rnS])
    · have hin : N = r := by have := of_decide_eq_false h34; omega
      subst hin
      refine AW.exit ?_
      refine Thn_e ?_
      clear hK K
      refine Thn_e ?_
      refine InB_here ?_
      refine Thn_n ?_
      refine hK _ _ ?_
      clear hK K
      refine AW.seq_k fun K hK => ?_
      refine AW.region (by decide) ?_
      simp only [push_cast, Nat.reduceAdd, Nat.reduceMul, Nat.reduceSub, Nat.reduceLeDiff, Nat.reduceLT, Nat.reduceEqDiff, Nat.reduceBEq, Nat.reduceBNe, Nat.reduceMod, Nat.reduceDiv, Int.reduceLE, Int.reduceLT, Int.reduceToNat, Int.reduceAdd, Int.reduceSub, Int.reduceMul, Int.reduceNeg, Int.reduceEq, Int.reduceBEq, Int.reduceBNe, ↓reduceIte, reduceCtorEq, String.reduceBNe, String.reduceEq, reduceDIte, Nat.reducePow, hb, lk_old hb, hb1, lk_old hb1, g, i1, i2, n0, n2, hz1, bl_len, il_len, Int.le_refl, Nat.le_refl, Int.one_mul]
      refine CThen.by (rdones_c m.length N (rnS N ln q (s0S ln q i) N) _ ⟨.grow, 1, by simp only [push_cast, Nat.reduceAdd, Nat.reduceMul, Nat.reduceSub, Nat.reduceLeDiff, Nat.reduceLT, Nat.reduceEqDiff, Nat.reduceBEq, Nat.reduceBNe, Nat.reduceMod, Nat.reduceDiv, Int.reduceLE, Int.reduceLT, Int.reduceToNat, Int.reduceAdd, Int.reduceSub, Int.reduceMul, Int.reduceNeg, Int.reduceEq, Int.reduceBEq, Int.reduceBNe, ↓reduceIte, reduceCtorEq, String.reduceBNe, String.reduceEq, reduceDIte, Nat.reducePow]⟩ hN) ?_
      simp only [push_cast, Nat.reduceAdd, Nat.reduceMul, Nat.reduceSub, Nat.reduceLeDiff, Nat.reduceLT, Nat.reduceEqDiff, Nat.reduceBEq, Nat.reduceBNe, Nat.reduceMod, Nat.reduceDiv, Int.reduceLE, Int.reduceLT, Int.reduceToNat, Int.reduceAdd, Int.reduceSub, Int.reduceMul, Int.reduceNeg, Int.reduceEq, Int.reduceBEq, Int.reduceBNe, ↓reduceIte, reduceCtorEq, String.reduceBNe, String.reduceEq, reduceDIte, Nat.reducePow, hb, lk_old hb, hb1, lk_old hb1, g, i1, i2, n0, n2, hz1, bl_len, il_len, Int.le_refl, Nat.le_refl, Int.one_mul]
      refine Thn_n ?_
      refine hK _ _ ?_
      clear hK K
      refine AW.ret ?_
      refine hQ _ _ _ ?_
      refine RetP.pick [(m.length + 1, 0)] (Or.inr rfl) ?_ ?_ ?_ hwf ?_
      · simp only [resA, resOne, resTv, AV.tv, push_cast, Nat.reduceAdd, Nat.reduceMul, Nat.reduceSub, Nat.reduceLeDiff, Nat.reduceLT, Nat.reduceEqDiff, Nat.reduceBEq, Nat.reduceBNe, Nat.reduceMod, Nat.reduceDiv, Int.reduceLE, Int.reduceLT, Int.reduceToNat, Int.reduceAdd, Int.reduceSub, Int.reduceMul, Int.reduceNeg, Int.reduceEq, Int.reduceBEq, Int.reduceBNe, ↓reduceIte, reduceCtorEq, String.reduceBNe, String.reduceEq, reduceDIte, Nat.reducePow]
        simp [renV, renT, renL, renC, renIdx, hlt0]
      · simp only [picks, push_cast, Nat.reduceAdd, Nat.reduceMul, Nat.reduceSub, Nat.reduceLeDiff, Nat.reduceLT, Nat.reduceEqDiff, Nat.reduceBEq, Nat.reduceBNe, Nat.reduceMod, Nat.reduceDiv, Int.reduceLE, Int.reduceLT, Int.reduceToNat, Int.reduceAdd, Int.reduceSub, Int.reduceMul, Int.reduceNeg, Int.reduceEq, Int.reduceBEq, Int.reduceBNe, ↓reduceIte, reduceCtorEq, String.reduceBNe, String.reduceEq, reduceDIte, Nat.reducePow]
      · simp [distinctFrom]
      · exact MWf_one (il_below _ _ _)
      
end Go.Proofs.Ytppolbilohkjmaa
