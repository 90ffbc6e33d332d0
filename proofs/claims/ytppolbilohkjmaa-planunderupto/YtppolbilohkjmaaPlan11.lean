/- Walks and facts of this seat's program over abstract states, printed by a program of mine; no conditions but those that each theorem names. -/
import Derived.Test.YtppolbilohkjmaaPlan10
set_option linter.unusedSimpArgs false
set_option linter.unusedVariables false
set_option maxRecDepth 100000
set_option maxHeartbeats 4000000
namespace Go.Proofs.Ytppolbilohkjmaa
open Go Go.Eng

theorem updI_same {f : Nat → Int} {i : Nat} {x : Int} (h : f i = x) : updI f i x = f := by
  funext j; simp only [updI]; split
  · rename_i e; rw [e, h]
  · rfl
theorem updI_two {f : Nat → Int} {i : Nat} {x y : Int} : updI (updI f i x) i y = updI f i y := by
  funext j; simp only [updI]; split <;> rfl
theorem dp_zero {ln : Nat → Nat} {q : Nat → Nat → Int} {o : List Nat} (hn : o.Nodup) : ∀ k p, k ≤ p → p < o.length → dpF ln q o k (o.getD p 0) = 0
  | 0, _, _, _ => rfl
  | k + 1, p, hk, hp => by
    have ih := dp_zero (ln := ln) (q := q) hn k p (by omega) hp
    simp only [dpF, updI]
    rw [if_neg, ih]
    have e1 : o.getD p 0 = o[p] := by rw [List.getD_eq_getElem?_getD, List.getElem?_eq_getElem hp]; rfl
    have e2 : o.getD k 0 = o[k] := by rw [List.getD_eq_getElem?_getD, List.getElem?_eq_getElem (by omega)]; rfl
    rw [e1, e2]
    exact fun hc => List.pairwise_iff_getElem.1 hn k p (by omega) hp (by omega) hc.symm
def tD (ln : Nat → Nat) (q : Nat → Nat → Int) (o : List Nat) (k : Nat) : Int := dpF ln q o (k + 1) (o.getD k 0)
theorem tD_all {N : Nat} {ln : Nat → Nat} {q : Nat → Nat → Int} (h : (itO N ln q N).length = N) : mxF (tD ln q (itO N ln q N)) N = mxF (D N ln q) N := by
  rw [← D_all h]
  refine mxF_congr fun k hk => ?_
  have e1 := dp_stay (ln := ln) (q := q) (it_ok N ln q N).1 (N - (k + 1)) (k + 1) k (by omega) (by omega)
  rw [show k + 1 + (N - (k + 1)) = N by omega] at e1
  exact e1.symm
theorem pdeep_no (rp N : Nat) (ln : Nat → Nat) (q : Nat → Nat → Int) (m : AMem) (hp : RowsAt m rp N ln q) (hl : ∀ i, i < N → ln i ≤ 1048576) (hN : N ≤ 1048576) (z : Int) (hz : CheckZ N ln q z) (h0 : (z != 0) = true) : Ctr Try.prog 15 [.one (.sl rp 0 0 N)] m (.one (.int .i64 0)) m := by
  refine Ctr.enter Try.func15 rfl (by decide) (rs := [.tmp 2]) (nt := 58) rfl rfl fun hwf Q hQ => ?_
  refine AW.seq_k fun K hK => ?_
  refine AW.region (by decide) ?_
  simp only [push_cast, Nat.reduceAdd, Nat.reduceMul, Nat.reduceSub, Nat.reduceLeDiff, Nat.reduceLT, Nat.reduceEqDiff, Nat.reduceBEq, Nat.reduceBNe, Nat.reduceMod, Nat.reduceDiv, Int.reduceLE, Int.reduceLT, Int.reduceToNat, Int.reduceAdd, Int.reduceSub, Int.reduceMul, Int.reduceNeg, Int.reduceEq, Int.reduceBEq, Int.reduceBNe, ↓reduceIte, reduceCtorEq, String.reduceBNe, String.reduceEq, reduceDIte, Nat.reducePow, h0]
  refine Thn_n ?_
  refine hK _ _ ?_
  clear hK K
  refine AW.seq_k fun K hK => ?_
  refine AW.seq_k fun K hK => ?_
  refine AW.region (by decide) ?_
  simp only [push_cast, Nat.reduceAdd, Nat.reduceMul, Nat.reduceSub, Nat.reduceLeDiff, Nat.reduceLT, Nat.reduceEqDiff, Nat.reduceBEq, Nat.reduceBNe, Nat.reduceMod, Nat.reduceDiv, Int.reduceLE, Int.reduceLT, Int.reduceToNat, Int.reduceAdd, Int.reduceSub, Int.reduceMul, Int.reduceNeg, Int.reduceEq, Int.reduceBEq, Int.reduceBNe, ↓reduceIte, reduceCtorEq, String.reduceBNe, String.reduceEq, reduceDIte, Nat.reducePow, h0]
  refine CThen.by (pcheck_c rp N ln q _ hp hl hN z hz) ?_
  simp only [push_cast, Nat.reduceAdd, Nat.reduceMul, Nat.reduceSub, Nat.reduceLeDiff, Nat.reduceLT, Nat.reduceEqDiff, Nat.reduceBEq, Nat.reduceBNe, Nat.reduceMod, Nat.reduceDiv, Int.reduceLE, Int.reduceLT, Int.reduceToNat, Int.reduceAdd, Int.reduceSub, Int.reduceMul, Int.reduceNeg, Int.reduceEq, Int.reduceBEq, Int.reduceBNe, ↓reduceIte, reduceCtorEq, String.reduceBNe, String.reduceEq, reduceDIte, Nat.reducePow, h0]
  refine Thn_n ?_
  refine hK _ _ ?_
  clear hK K
  refine AW.cond_t rfl ?_
  refine AW.seq_k fun K hK => ?_
  refine AW.region (by decide) ?_
  simp only [push_cast, Nat.reduceAdd, Nat.reduceMul, Nat.reduceSub, Nat.reduceLeDiff, Nat.reduceLT, Nat.reduceEqDiff, Nat.reduceBEq, Nat.reduceBNe, Nat.reduceMod, Nat.reduceDiv, Int.reduceLE, Int.reduceLT, Int.reduceToNat, Int.reduceAdd, Int.reduceSub, Int.reduceMul, Int.reduceNeg, Int.reduceEq, Int.reduceBEq, Int.reduceBNe, ↓reduceIte, reduceCtorEq, String.reduceBNe, String.reduceEq, reduceDIte, Nat.reducePow, h0]
  refine Thn_n ?_
  refine hK _ _ ?_
  clear hK K
  refine AW.ret ?_
  refine Thn_r ?_
  refine hQ _ _ _ ?_
  first | refine RetP.drop0 (Or.inr rfl) ?_ ?_ hwf | refine RetP.drop (Or.inr rfl) ?_ ?_ hwf
  · simp only [resA, resOne, resTv, AV.tv, push_cast, Nat.reduceAdd, Nat.reduceMul, Nat.reduceSub, Nat.reduceLeDiff, Nat.reduceLT, Nat.reduceEqDiff, Nat.reduceBEq, Nat.reduceBNe, Nat.reduceMod, Nat.reduceDiv, Int.reduceLE, Int.reduceLT, Int.reduceToNat, Int.reduceAdd, Int.reduceSub, Int.reduceMul, Int.reduceNeg, Int.reduceEq, Int.reduceBEq, Int.reduceBNe, ↓reduceIte, reduceCtorEq, String.reduceBNe, String.reduceEq, reduceDIte, Nat.reducePow, h0]
  · rfl
theorem pdeep_c (rp N : Nat) (ln : Nat → Nat) (q : Nat → Nat → Int) (m : AMem) (hp : RowsAt m rp N ln q) (hl : ∀ i, i < N → ln i ≤ 1048576) (hN : N ≤ 1048576) (hz : CheckZ N ln q 0) (hs : N ≤ 256) (hfull : (itO N ln q N).length = N) : Ctr Try.prog 15 [.one (.sl rp 0 0 N)] m (.one (.int .i64 (mxF (D N ln q) N))) m := by
  refine Ctr.enter Try.func15 rfl (by decide) (rs := [.tmp 2]) (nt := 58) rfl rfl fun hwf Q hQ => ?_
  obtain ⟨k0, v0, ez, rr, hv0, hb, hrows⟩ := hp.hb
  subst hv0
  have hr := get_lt hb
  obtain ⟨hon, hom⟩ := it_ok N ln q N
  have n0 : (0 : Int) ≤ (N : Int) := by omega
  have n3 : (N : Int) ≤ 35184372088832 := by omega
  have n5 : 8 * (N : Int) ≤ 281474976710656 := by omega
  have n2 : (N : Int) ≤ 281474976710656 := by omega
  have hz0 := il_zero (z := .int .i64 0) (N := N) rfl
  simp only [push_cast, Nat.reduceAdd, Nat.reduceMul, Nat.reduceSub, Nat.reduceLeDiff, Nat.reduceLT, Nat.reduceEqDiff, Nat.reduceBEq, Nat.reduceBNe, Nat.reduceMod, Nat.reduceDiv, Int.reduceLE, Int.reduceLT, Int.reduceToNat, Int.reduceAdd, Int.reduceSub, Int.reduceMul, Int.reduceNeg, Int.reduceEq, Int.reduceBEq, Int.reduceBNe, ↓reduceIte, reduceCtorEq, String.reduceBNe, String.reduceEq, reduceDIte, Nat.reducePow] at hz0
  have hall := tD_all hfull
  have gO := fun {i : Nat} (h : i < N) => @il_get N (oF (itO N ln q N)) i h
  refine AW.seq_k fun K hK => ?_
  refine AW.region (by decide) ?_
  simp only [push_cast, Nat.reduceAdd, Nat.reduceMul, Nat.reduceSub, Nat.reduceLeDiff, Nat.reduceLT, Nat.reduceEqDiff, Nat.reduceBEq, Nat.reduceBNe, Nat.reduceMod, Nat.reduceDiv, Int.reduceLE, Int.reduceLT, Int.reduceToNat, Int.reduceAdd, Int.reduceSub, Int.reduceMul, Int.reduceNeg, Int.reduceEq, Int.reduceBEq, Int.reduceBNe, ↓reduceIte, reduceCtorEq, String.reduceBNe, String.reduceEq, reduceDIte, Nat.reducePow, hb, lk_old hb, hfull, n0, n2, n3, n5, hz0, il_len, Int.le_refl, Nat.le_refl]
  refine Thn_n ?_
  refine hK _ _ ?_
  clear hK K
  refine AW.seq_k fun K hK => ?_
  refine AW.seq_k fun K hK => ?_
  refine AW.region (by decide) ?_
  simp only [push_cast, Nat.reduceAdd, Nat.reduceMul, Nat.reduceSub, Nat.reduceLeDiff, Nat.reduceLT, Nat.reduceEqDiff, Nat.reduceBEq, Nat.reduceBNe, Nat.reduceMod, Nat.reduceDiv, Int.reduceLE, Int.reduceLT, Int.reduceToNat, Int.reduceAdd, Int.reduceSub, Int.reduceMul, Int.reduceNeg, Int.reduceEq, Int.reduceBEq, Int.reduceBNe, ↓reduceIte, reduceCtorEq, String.reduceBNe, String.reduceEq, reduceDIte, Nat.reducePow, hb, lk_old hb, hfull, n0, n2, n3, n5, hz0, il_len, Int.le_refl, Nat.le_refl]
  refine CThen.by (pcheck_c rp N ln q _ hp hl hN 0 hz) ?_
  simp only [push_cast, Nat.reduceAdd, Nat.reduceMul, Nat.reduceSub, Nat.reduceLeDiff, Nat.reduceLT, Nat.reduceEqDiff, Nat.reduceBEq, Nat.reduceBNe, Nat.reduceMod, Nat.reduceDiv, Int.reduceLE, Int.reduceLT, Int.reduceToNat, Int.reduceAdd, Int.reduceSub, Int.reduceMul, Int.reduceNeg, Int.reduceEq, Int.reduceBEq, Int.reduceBNe, ↓reduceIte, reduceCtorEq, String.reduceBNe, String.reduceEq, reduceDIte, Nat.reducePow, hb, lk_old hb, hfull, n0, n2, n3, n5, hz0, il_len, Int.le_refl, Nat.le_refl]
  refine Thn_n ?_
  refine hK _ _ ?_
  clear hK K
  refine AW.cond_f rfl ?_
  refine AW.skip ?_
  iterate 2
    refine Thn_n ?_
    refine hK _ _ ?_
    clear hK K
    refine AW.seq_k fun K hK => ?_
    refine AW.region (by decide) ?_
    simp only [push_cast, Nat.reduceAdd, Nat.reduceMul, Nat.reduceSub, Nat.reduceLeDiff, Nat.reduceLT, Nat.reduceEqDiff, Nat.reduceBEq, Nat.reduceBNe, Nat.reduceMod, Nat.reduceDiv, Int.reduceLE, Int.reduceLT, Int.reduceToNat, Int.reduceAdd, Int.reduceSub, Int.reduceMul, Int.reduceNeg, Int.reduceEq, Int.reduceBEq, Int.reduceBNe, ↓reduceIte, reduceCtorEq, String.reduceBNe, String.reduceEq, reduceDIte, Nat.reducePow, hb, lk_old hb, hfull, n0, n2, n3, n5, hz0, il_len, Int.le_refl, Nat.le_refl]
  refine Thn_n ?_
  refine hK _ _ ?_
  clear hK K
  refine AW.seq_k fun K hK => ?_
  refine AW.seq_k fun K hK => ?_
  refine AW.region (by decide) ?_
  simp only [push_cast, Nat.reduceAdd, Nat.reduceMul, Nat.reduceSub, Nat.reduceLeDiff, Nat.reduceLT, Nat.reduceEqDiff, Nat.reduceBEq, Nat.reduceBNe, Nat.reduceMod, Nat.reduceDiv, Int.reduceLE, Int.reduceLT, Int.reduceToNat, Int.reduceAdd, Int.reduceSub, Int.reduceMul, Int.reduceNeg, Int.reduceEq, Int.reduceBEq, Int.reduceBNe, ↓reduceIte, reduceCtorEq, String.reduceBNe, String.reduceEq, reduceDIte, Nat.reducePow, hb, lk_old hb, hfull, n0, n2, n3, n5, hz0, il_len, Int.le_refl, Nat.le_refl]
  try (refine CThen.by (order_c rp N ln q _ (hp.mono _) hl hN) ?_; simp only [push_cast, Nat.reduceAdd, Nat.reduceMul, Nat.reduceSub, Nat.reduceLeDiff, Nat.reduceLT, Nat.reduceEqDiff, Nat.reduceBEq, Nat.reduceBNe, Nat.reduceMod, Nat.reduceDiv, Int.reduceLE, Int.reduceLT, Int.reduceToNat, Int.reduceAdd, Int.reduceSub, Int.reduceMul, Int.reduceNeg, Int.reduceEq, Int.reduceBEq, Int.reduceBNe, ↓reduceIte, reduceCtorEq, String.reduceBNe, String.reduceEq, reduceDIte, Nat.reducePow, hb, lk_old hb, hfull, n0, n2, n3, n5, hz0, il_len, Int.le_refl, Nat.le_refl])
  refine Thn_n ?_
  refine hK _ _ ?_
  clear hK K
  refine AW.block ?_
  refine AW.loopK [0, 3, 16, 17] (fun k => k ≤ N) (fun k => [(4, .one (.int .i64 (mxF (tD ln q (itO N ln q N)) k))), (18, .one (.int .i64 (k : Int)))]) (fun k => [(m.length, ⟨.grow, 3, 0, 1, il N (dpF ln q (itO N ln q N) k)⟩)]) (fun k => N - k) 0 (by omega) ?_ ?_ fun k hi8 => ?_
  · first | rfl | (simp only [Keeps, Tm.get_cons, Nat.reduceEqDiff, ↓reduceIte, if_true, if_false, ite_true, ite_false, true_and, and_true, and_self, reduceCtorEq, dpF, mxF] <;> rfl)
  · first | rfl | (simp only [setAll, push_cast, Nat.reduceAdd, Nat.reduceMul, Nat.reduceSub, Nat.reduceLeDiff, Nat.reduceLT, Nat.reduceEqDiff, Nat.reduceBEq, Nat.reduceBNe, Nat.reduceMod, Nat.reduceDiv, Int.reduceLE, Int.reduceLT, Int.reduceToNat, Int.reduceAdd, Int.reduceSub, Int.reduceMul, Int.reduceNeg, Int.reduceEq, Int.reduceBEq, Int.reduceBNe, ↓reduceIte, reduceCtorEq, String.reduceBNe, String.reduceEq, reduceDIte, Nat.reducePow, hb, lk_old hb, hfull, n0, n2, n3, n5, hz0, il_len, Int.le_refl, Nat.le_refl, dpF, mxF] <;> rfl)
  try simp only [keepL, setAll, push_cast, Nat.reduceAdd, Nat.reduceMul, Nat.reduceSub, Nat.reduceLeDiff, Nat.reduceLT, Nat.reduceEqDiff, Nat.reduceBEq, Nat.reduceBNe, Nat.reduceMod, Nat.reduceDiv, Int.reduceLE, Int.reduceLT, Int.reduceToNat, Int.reduceAdd, Int.reduceSub, Int.reduceMul, Int.reduceNeg, Int.reduceEq, Int.reduceBEq, Int.reduceBNe, ↓reduceIte, reduceCtorEq, String.reduceBNe, String.reduceEq, reduceDIte, Nat.reducePow, hb, lk_old hb, hfull, n0, n2, n3, n5, hz0, il_len, Int.le_refl, Nat.le_refl]
  refine AW.seq_k fun K hK => ?_
  refine AW.region (by decide) ?_
  simp only [push_cast, Nat.reduceAdd, Nat.reduceMul, Nat.reduceSub, Nat.reduceLeDiff, Nat.reduceLT, Nat.reduceEqDiff, Nat.reduceBEq, Nat.reduceBNe, Nat.reduceMod, Nat.reduceDiv, Int.reduceLE, Int.reduceLT, Int.reduceToNat, Int.reduceAdd, Int.reduceSub, Int.reduceMul, Int.reduceNeg, Int.reduceEq, Int.reduceBEq, Int.reduceBNe, ↓reduceIte, reduceCtorEq, String.reduceBNe, String.reduceEq, reduceDIte, Nat.reducePow, hb, lk_old hb, hfull, n0, n2, n3, n5, hz0, il_len, Int.le_refl, Nat.le_refl]
  refine Thn_n ?_
  refine hK _ _ ?_
  clear hK K
  refine AW.seq_k fun K hK => ?_
  refine AW.cond rfl (fun h19 => ?_) (fun h19 => ?_)
  · have hlt : k < N := by have := of_decide_eq_true h19; omega
    have c1 : (0 : Int) ≤ (k : Int) := by omega
    have c2 : (k : Int) < (N : Int) := by omega
    have g := gO hlt
    have hv := oL_lt hom (k := k) (by omega)
    obtain ⟨hneed, _⟩ := D_at hfull k hlt
    have hz9 := dp_zero (ln := ln) (q := q) hon k k (Nat.le_refl _) (by omega)
    have hz8 := fun p (hp : p < k) => dp_stay (ln := ln) (q := q) hon 0 k p hp (by omega)
    have hne : ∀ p, p < k → (itO N ln q N).getD p 0 ≠ (itO N ln q N).getD k 0 := fun p hpk hc => by
      have e1 : (itO N ln q N).getD p 0 = (itO N ln q N)[p] := by rw [List.getD_eq_getElem?_getD, List.getElem?_eq_getElem (by omega)]; rfl
      have e2 : (itO N ln q N).getD k 0 = (itO N ln q N)[k] := by rw [List.getD_eq_getElem?_getD, List.getElem?_eq_getElem (by omega)]; rfl
      rw [e1, e2] at hc
      exact List.pairwise_iff_getElem.1 hon p k (by omega) (by omega) hpk hc
    have hdl := fun p (hp : p < k) => oL_lt hom (k := p) (by omega)
    have ho : oF (itO N ln q N) k = (((itO N ln q N).getD k 0 : Nat) : Int) := rfl
    have htd : tD ln q (itO N ln q N) k = mxF (fun j => dpF ln q (itO N ln q N) k (q ((itO N ln q N).getD k 0) j).toNat) (ln ((itO N ln q N).getD k 0)) + 1 := by simp only [tD, dpF, updI, if_true]
    have hdk : dpF ln q (itO N ln q N) (k + 1) = updI (dpF ln q (itO N ln q N) k) ((itO N ln q N).getD k 0) (mxF (fun j => dpF ln q (itO N ln q N) k (q ((itO N ln q N).getD k 0) j).toNat) (ln ((itO N ln q N).getD k 0)) + 1) := rfl
    generalize (itO N ln q N).getD k 0 = i at *
    have hrow := hrows i hv
    obtain ⟨k1, ez1, hb1⟩ := hrow.hb
    have gr := rl_get (r := rr) (ln := ln) hv
    have hli := hl i hv
    have i1 : (0 : Int) ≤ (i : Int) := by omega
    have i2 : (i : Int) < (N : Int) := by omega
    have hv1 : i + 1 ≤ N := hv
    have hst0 : updI (dpF ln q (itO N ln q N) k) i 0 = dpF ln q (itO N ln q N) k := updI_same hz9
    refine AW.skip ?_
    refine Thn_n ?_
    refine hK _ _ ?_
    clear hK K
    refine AW.seq_k fun K hK => ?_
    refine AW.block ?_
    refine AW.seq_k fun K hK => ?_
    refine AW.region (by decide) ?_
    simp only [push_cast, Nat.reduceAdd, Nat.reduceMul, Nat.reduceSub, Nat.reduceLeDiff, Nat.reduceLT, Nat.reduceEqDiff, Nat.reduceBEq, Nat.reduceBNe, Nat.reduceMod, Nat.reduceDiv, Int.reduceLE, Int.reduceLT, Int.reduceToNat, Int.reduceAdd, Int.reduceSub, Int.reduceMul, Int.reduceNeg, Int.reduceEq, Int.reduceBEq, Int.reduceBNe, ↓reduceIte, reduceCtorEq, String.reduceBNe, String.reduceEq, reduceDIte, Nat.reducePow, hb, lk_old hb, hfull, n0, n2, n3, n5, hz0, il_len, Int.le_refl, Nat.le_refl, c1, c2, g, ho, i1, i2, hb1, lk_old hb1, gr]
    refine Thn_n ?_
    refine hK _ _ ?_
    clear hK K
    refine AW.seq_k fun K hK => ?_
    refine AW.seq_k fun K hK => ?_
    refine AW.region (by decide) ?_
    simp only [push_cast, Nat.reduceAdd, Nat.reduceMul, Nat.reduceSub, Nat.reduceLeDiff, Nat.reduceLT, Nat.reduceEqDiff, Nat.reduceBEq, Nat.reduceBNe, Nat.reduceMod, Nat.reduceDiv, Int.reduceLE, Int.reduceLT, Int.reduceToNat, Int.reduceAdd, Int.reduceSub, Int.reduceMul, Int.reduceNeg, Int.reduceEq, Int.reduceBEq, Int.reduceBNe, ↓reduceIte, reduceCtorEq, String.reduceBNe, String.reduceEq, reduceDIte, Nat.reducePow, hb, lk_old hb, hfull, n0, n2, n3, n5, hz0, il_len, Int.le_refl, Nat.le_refl, c1, c2, g, ho, i1, i2, hb1, lk_old hb1, gr]
    refine Thn_n ?_
    refine hK _ _ ?_
    clear hK K
    refine AW.block ?_
    refine AW.loopK [0, 3, 4, 6, 16, 17, 18, 25, 26] (fun j => j ≤ ln i) (fun j => [(27, .one (.int .i64 (j : Int)))]) (fun j => [(m.length, ⟨.grow, 3, 0, 1, il N (updI (dpF ln q (itO N ln q N) k) i (mxF (fun j => (dpF ln q (itO N ln q N) k) (q i j).toNat) j))⟩)]) (fun j => ln i - j) 0 (by omega) ?_ ?_ fun j hi15 => ?_
    · first | rfl | (simp only [Keeps, Tm.get_cons, Nat.reduceEqDiff, ↓reduceIte, if_true, if_false, ite_true, ite_false, true_and, and_true, and_self, reduceCtorEq, mxF, hst0] <;> rfl)
    · first | rfl | (simp only [setAll, push_cast, Nat.reduceAdd, Nat.reduceMul, Nat.reduceSub, Nat.reduceLeDiff, Nat.reduceLT, Nat.reduceEqDiff, Nat.reduceBEq, Nat.reduceBNe, Nat.reduceMod, Nat.reduceDiv, Int.reduceLE, Int.reduceLT, Int.reduceToNat, Int.reduceAdd, Int.reduceSub, Int.reduceMul, Int.reduceNeg, Int.reduceEq, Int.reduceBEq, Int.reduceBNe, ↓reduceIte, reduceCtorEq, String.reduceBNe, String.reduceEq, reduceDIte, Nat.reducePow, hb, lk_old hb, hfull, n0, n2, n3, n5, hz0, il_len, Int.le_refl, Nat.le_refl, c1, c2, g, ho, i1, i2, hb1, lk_old hb1, gr, mxF, hst0] <;> rfl)
    try simp only [keepL, setAll, push_cast, Nat.reduceAdd, Nat.reduceMul, Nat.reduceSub, Nat.reduceLeDiff, Nat.reduceLT, Nat.reduceEqDiff, Nat.reduceBEq, Nat.reduceBNe, Nat.reduceMod, Nat.reduceDiv, Int.reduceLE, Int.reduceLT, Int.reduceToNat, Int.reduceAdd, Int.reduceSub, Int.reduceMul, Int.reduceNeg, Int.reduceEq, Int.reduceBEq, Int.reduceBNe, ↓reduceIte, reduceCtorEq, String.reduceBNe, String.reduceEq, reduceDIte, Nat.reducePow, hb, lk_old hb, hfull, n0, n2, n3, n5, hz0, il_len, Int.le_refl, Nat.le_refl, c1, c2, g, ho, i1, i2, hb1, lk_old hb1, gr]
    refine AW.seq_k fun K hK => ?_
    refine AW.region (by decide) ?_
    simp only [push_cast, Nat.reduceAdd, Nat.reduceMul, Nat.reduceSub, Nat.reduceLeDiff, Nat.reduceLT, Nat.reduceEqDiff, Nat.reduceBEq, Nat.reduceBNe, Nat.reduceMod, Nat.reduceDiv, Int.reduceLE, Int.reduceLT, Int.reduceToNat, Int.reduceAdd, Int.reduceSub, Int.reduceMul, Int.reduceNeg, Int.reduceEq, Int.reduceBEq, Int.reduceBNe, ↓reduceIte, reduceCtorEq, String.reduceBNe, String.reduceEq, reduceDIte, Nat.reducePow, hb, lk_old hb, hfull, n0, n2, n3, n5, hz0, il_len, Int.le_refl, Nat.le_refl, c1, c2, g, ho, i1, i2, hb1, lk_old hb1, gr]
    refine Thn_n ?_
    refine hK _ _ ?_
    clear hK K
    refine AW.seq_k fun K hK => ?_
    refine AW.cond rfl (fun h28 => ?_) (fun h28 => ?_)
    · have hjl : j < ln i := by have := of_decide_eq_true h28; omega
      have d1 : (0 : Int) ≤ (j : Int) := by omega
      have d2 : (j : Int) < (ln i : Int) := by omega
      have gj := il_get (f := q i) hjl
      obtain ⟨p, hpk, hpe⟩ := hneed j hjl
      have hpN := hdl p hpk
      have hpi := hne p hpk
      have hset : (il N (updI (dpF ln q (itO N ln q N) k) i (mxF (fun j => dpF ln q (itO N ln q N) k (q i j).toNat) j))).set i (.int .i64 (maxI (mxF (fun j => dpF ln q (itO N ln q N) k (q i j).toNat) j) (dpF ln q (itO N ln q N) k ((itO N ln q N).getD p 0)))) = il N (updI (dpF ln q (itO N ln q N) k) i (mxF (fun j => dpF ln q (itO N ln q N) k (q i j).toNat) (j + 1))) := by
        rw [il_set, updI_two, mxF, hpe, Int.toNat_natCast]
      rw [hpe] at gj
      generalize (itO N ln q N).getD p 0 = d at *
      have d3 : (0 : Int) ≤ (d : Int) := by omega
      have d4 : (d : Int) < (N : Int) := by omega
      have gd := il_get (f := updI (dpF ln q (itO N ln q N) k) i (mxF (fun j => dpF ln q (itO N ln q N) k (q i j).toNat) j)) hpN
      have gi := il_get (f := updI (dpF ln q (itO N ln q N) k) i (mxF (fun j => dpF ln q (itO N ln q N) k (q i j).toNat) j)) hv
      have hd0 : updI (dpF ln q (itO N ln q N) k) i (mxF (fun j => dpF ln q (itO N ln q N) k (q i j).toNat) j) d = dpF ln q (itO N ln q N) k d := by simp only [updI]; rw [if_neg hpi]
      have hi0 : updI (dpF ln q (itO N ln q N) k) i (mxF (fun j => dpF ln q (itO N ln q N) k (q i j).toNat) j) i = mxF (fun j => dpF ln q (itO N ln q N) k (q i j).toNat) j := by simp only [updI, if_true]
      rw [hd0] at gd
      rw [hi0] at gi
      refine AW.skip ?_
      refine Thn_n ?_
      refine hK _ _ ?_
      clear hK K
      refine AW.seq_k fun K hK => ?_
      refine AW.block ?_
      refine AW.seq_k fun K hK => ?_
      refine AW.region (by decide) ?_
      simp only [push_cast, Nat.reduceAdd, Nat.reduceMul, Nat.reduceSub, Nat.reduceLeDiff, Nat.reduceLT, Nat.reduceEqDiff, Nat.reduceBEq, Nat.reduceBNe, Nat.reduceMod, Nat.reduceDiv, Int.reduceLE, Int.reduceLT, Int.reduceToNat, Int.reduceAdd, Int.reduceSub, Int.reduceMul, Int.reduceNeg, Int.reduceEq, Int.reduceBEq, Int.reduceBNe, ↓reduceIte, reduceCtorEq, String.reduceBNe, String.reduceEq, reduceDIte, Nat.reducePow, hb, lk_old hb, hfull, n0, n2, n3, n5, hz0, il_len, Int.le_refl, Nat.le_refl, c1, c2, g, ho, i1, i2, hb1, lk_old hb1, gr, gj, d1, d2, d3, d4, gd, gi, hv1, hset]
      refine Thn_n ?_
      refine hK _ _ ?_
      clear hK K
      refine AW.draw [.val, .val, .val, .val, .val, .rd 0, .val, .val, .val, .rd 0, .val, .val, .wr] fol (by decide) (by kernel_rfl) ?_
      simp only [push_cast, Nat.reduceAdd, Nat.reduceMul, Nat.reduceSub, Nat.reduceLeDiff, Nat.reduceLT, Nat.reduceEqDiff, Nat.reduceBEq, Nat.reduceBNe, Nat.reduceMod, Nat.reduceDiv, Int.reduceLE, Int.reduceLT, Int.reduceToNat, Int.reduceAdd, Int.reduceSub, Int.reduceMul, Int.reduceNeg, Int.reduceEq, Int.reduceBEq, Int.reduceBNe, ↓reduceIte, reduceCtorEq, String.reduceBNe, String.reduceEq, reduceDIte, Nat.reducePow, hb, lk_old hb, hfull, n0, n2, n3, n5, hz0, il_len, Int.le_refl, Nat.le_refl, c1, c2, g, ho, i1, i2, hb1, lk_old hb1, gr, gj, d1, d2, d3, d4, gd, gi, hv1, hset]
      refine InB_n ?_
      refine Thn_n ?_
      refine hK _ _ ?_
      clear hK K
      refine AW.region (by decide) ?_
      simp only [push_cast, Nat.reduceAdd, Nat.reduceMul, Nat.reduceSub, Nat.reduceLeDiff, Nat.reduceLT, Nat.reduceEqDiff, Nat.reduceBEq, Nat.reduceBNe, Nat.reduceMod, Nat.reduceDiv, Int.reduceLE, Int.reduceLT, Int.reduceToNat, Int.reduceAdd, Int.reduceSub, Int.reduceMul, Int.reduceNeg, Int.reduceEq, Int.reduceBEq, Int.reduceBNe, ↓reduceIte, reduceCtorEq, String.reduceBNe, String.reduceEq, reduceDIte, Nat.reducePow, hb, lk_old hb, hfull, n0, n2, n3, n5, hz0, il_len, Int.le_refl, Nat.le_refl, c1, c2, g, ho, i1, i2, hb1, lk_old hb1, gr, gj, d1, d2, d3, d4, gd, gi, hv1, hset]
      refine Thn_n ?_
      have hwi : IntKind.i64.wrap ((j:Int)+1) = (j:Int)+1 := by rw [IntKind.wrap_i64]; omega
      refine ⟨j + 1, by omega, by omega, ?_⟩
      try simp only [keepL, setAll, push_cast, Nat.reduceAdd, Nat.reduceMul, Nat.reduceSub, Nat.reduceLeDiff, Nat.reduceLT, Nat.reduceEqDiff, Nat.reduceBEq, Nat.reduceBNe, Nat.reduceMod, Nat.reduceDiv, Int.reduceLE, Int.reduceLT, Int.reduceToNat, Int.reduceAdd, Int.reduceSub, Int.reduceMul, Int.reduceNeg, Int.reduceEq, Int.reduceBEq, Int.reduceBNe, ↓reduceIte, reduceCtorEq, String.reduceBNe, String.reduceEq, reduceDIte, Nat.reducePow, hb, lk_old hb, hfull, n0, n2, n3, n5, hz0, il_len, Int.le_refl, Nat.le_refl, c1, c2, g, ho, i1, i2, hb1, lk_old hb1, gr, gj, d1, d2, d3, d4, gd, gi, hv1, hset, hwi, hset]
      exact Weak.same (by simp only [Keeps, Tm.get_cons, Nat.reduceEqDiff, ↓reduceIte, if_true, if_false, ite_true, ite_false, true_and, and_true, and_self, reduceCtorEq, hwi, hset]) (by first | rfl | simp only [Keeps, Tm.get_cons, Nat.reduceEqDiff, ↓reduceIte, if_true, if_false, ite_true, ite_false, true_and, and_true, and_self, reduceCtorEq, hwi, hset])
    · have hjn : ln i = j := by have := of_decide_eq_false h28; omega
      have gi := il_get (f := updI (dpF ln q (itO N ln q N) k) i (mxF (fun j => dpF ln q (itO N ln q N) k (q i j).toNat) (ln i))) hv
      have hi0 : updI (dpF ln q (itO N ln q N) k) i (mxF (fun j => dpF ln q (itO N ln q N) k (q i j).toNat) (ln i)) i = mxF (fun j => dpF ln q (itO N ln q N) k (q i j).toNat) (ln i) := by simp only [updI, if_true]
      rw [hi0] at gi
      subst hjn
      have hset3 : (il N (updI (dpF ln q (itO N ln q N) k) i (mxF (fun j => dpF ln q (itO N ln q N) k (q i j).toNat) (ln i)))).set i (.int .i64 (mxF (fun j => dpF ln q (itO N ln q N) k (q i j).toNat) (ln i) + 1)) = il N (dpF ln q (itO N ln q N) (k + 1)) := by rw [il_set, updI_two, hdk]
      have hb0 := mxF_0 (fun j => dpF ln q (itO N ln q N) k (q i j).toNat) (ln i)
      have hb1' := mxF_le (g := fun j => dpF ln q (itO N ln q N) k (q i j).toNat) (x := (k : Int)) (by omega) (n := ln i) fun j _ => (dp_le k _).2
      have hw9 : IntKind.i64.wrap (mxF (fun j => dpF ln q (itO N ln q N) k (q i j).toNat) (ln i) + 1) = mxF (fun j => dpF ln q (itO N ln q N) k (q i j).toNat) (ln i) + 1 := by rw [IntKind.wrap_i64]; omega
      have g9 := il_get (f := dpF ln q (itO N ln q N) (k + 1)) hv
      have e9 : dpF ln q (itO N ln q N) (k + 1) i = tD ln q (itO N ln q N) k := by rw [hdk, htd]; simp only [updI, if_true]
      rw [e9] at g9
      have hval : True := trivial
      refine AW.exit ?_
      refine Thn_e ?_
      clear hK K
      refine Thn_e ?_
      refine InB_here ?_
      refine Thn_n ?_
      refine hK _ _ ?_
      clear hK K
      refine AW.seq_k fun K hK => ?_
      refine AW.region (by decide) ?_
      simp only [push_cast, Nat.reduceAdd, Nat.reduceMul, Nat.reduceSub, Nat.reduceLeDiff, Nat.reduceLT, Nat.reduceEqDiff, Nat.reduceBEq, Nat.reduceBNe, Nat.reduceMod, Nat.reduceDiv, Int.reduceLE, Int.reduceLT, Int.reduceToNat, Int.reduceAdd, Int.reduceSub, Int.reduceMul, Int.reduceNeg, Int.reduceEq, Int.reduceBEq, Int.reduceBNe, ↓reduceIte, reduceCtorEq, String.reduceBNe, String.reduceEq, reduceDIte, Nat.reducePow, hb, lk_old hb, hfull, n0, n2, n3, n5, hz0, il_len, Int.le_refl, Nat.le_refl, c1, c2, g, ho, i1, i2, hb1, lk_old hb1, gr, gi, hset3, hw9, g9, hv1]
      refine Thn_n ?_
      refine hK _ _ ?_
      clear hK K
      refine AW.region (by decide) ?_
      simp only [push_cast, Nat.reduceAdd, Nat.reduceMul, Nat.reduceSub, Nat.reduceLeDiff, Nat.reduceLT, Nat.reduceEqDiff, Nat.reduceBEq, Nat.reduceBNe, Nat.reduceMod, Nat.reduceDiv, Int.reduceLE, Int.reduceLT, Int.reduceToNat, Int.reduceAdd, Int.reduceSub, Int.reduceMul, Int.reduceNeg, Int.reduceEq, Int.reduceBEq, Int.reduceBNe, ↓reduceIte, reduceCtorEq, String.reduceBNe, String.reduceEq, reduceDIte, Nat.reducePow, hb, lk_old hb, hfull, n0, n2, n3, n5, hz0, il_len, Int.le_refl, Nat.le_refl, c1, c2, g, ho, i1, i2, hb1, lk_old hb1, gr, gi, hset3, hw9, g9, hv1]
      refine InB_n ?_
      refine Thn_n ?_
      refine hK _ _ ?_
      clear hK K
      refine AW.region (by decide) ?_
      simp only [push_cast, Nat.reduceAdd, Nat.reduceMul, Nat.reduceSub, Nat.reduceLeDiff, Nat.reduceLT, Nat.reduceEqDiff, Nat.reduceBEq, Nat.reduceBNe, Nat.reduceMod, Nat.reduceDiv, Int.reduceLE, Int.reduceLT, Int.reduceToNat, Int.reduceAdd, Int.reduceSub, Int.reduceMul, Int.reduceNeg, Int.reduceEq, Int.reduceBEq, Int.reduceBNe, ↓reduceIte, reduceCtorEq, String.reduceBNe, String.reduceEq, reduceDIte, Nat.reducePow, hb, lk_old hb, hfull, n0, n2, n3, n5, hz0, il_len, Int.le_refl, Nat.le_refl, c1, c2, g, ho, i1, i2, hb1, lk_old hb1, gr, gi, hset3, hw9, g9, hv1]
      refine Thn_n ?_
      have hwi : IntKind.i64.wrap ((k:Int)+1) = (k:Int)+1 := by rw [IntKind.wrap_i64]; omega
      refine ⟨k + 1, by omega, by omega, ?_⟩
      try simp only [keepL, setAll, push_cast, Nat.reduceAdd, Nat.reduceMul, Nat.reduceSub, Nat.reduceLeDiff, Nat.reduceLT, Nat.reduceEqDiff, Nat.reduceBEq, Nat.reduceBNe, Nat.reduceMod, Nat.reduceDiv, Int.reduceLE, Int.reduceLT, Int.reduceToNat, Int.reduceAdd, Int.reduceSub, Int.reduceMul, Int.reduceNeg, Int.reduceEq, Int.reduceBEq, Int.reduceBNe, ↓reduceIte, reduceCtorEq, String.reduceBNe, String.reduceEq, reduceDIte, Nat.reducePow, hb, lk_old hb, hfull, n0, n2, n3, n5, hz0, il_len, Int.le_refl, Nat.le_refl, c1, c2, g, ho, i1, i2, hb1, lk_old hb1, gr, gi, hset3, hw9, g9, hv1, hwi, hset3, mxF, tD, hval]
      exact Weak.same (by simp only [Keeps, Tm.get_cons, Nat.reduceEqDiff, ↓reduceIte, if_true, if_false, ite_true, ite_false, true_and, and_true, and_self, reduceCtorEq, hwi, hset3, mxF, tD, hval]) (by first | rfl | simp only [Keeps, Tm.get_cons, Nat.reduceEqDiff, ↓reduceIte, if_true, if_false, ite_true, ite_false, true_and, and_true, and_self, reduceCtorEq, hwi, hset3, mxF, tD, hval])
  · have hin : N = k := by have := of_decide_eq_false h19; omega
    subst hin
    refine AW.exit ?_
    refine Thn_e ?_
    clear hK K
    refine Thn_e ?_
    refine InB_here ?_
    refine Thn_n ?_
    refine hK _ _ ?_
    clear hK K
    refine AW.seq_k fun K hK => ?_
    refine AW.region (by decide) ?_
    simp only [push_cast, Nat.reduceAdd, Nat.reduceMul, Nat.reduceSub, Nat.reduceLeDiff, Nat.reduceLT, Nat.reduceEqDiff, Nat.reduceBEq, Nat.reduceBNe, Nat.reduceMod, Nat.reduceDiv, Int.reduceLE, Int.reduceLT, Int.reduceToNat, Int.reduceAdd, Int.reduceSub, Int.reduceMul, Int.reduceNeg, Int.reduceEq, Int.reduceBEq, Int.reduceBNe, ↓reduceIte, reduceCtorEq, String.reduceBNe, String.reduceEq, reduceDIte, Nat.reducePow, hb, lk_old hb, hfull, n0, n2, n3, n5, hz0, il_len, Int.le_refl, Nat.le_refl]
    refine Thn_n ?_
    refine hK _ _ ?_
    clear hK K
    refine AW.ret ?_
    refine hQ _ _ _ ?_
    first | refine RetP.drop0 (Or.inr rfl) ?_ ?_ hwf | refine RetP.drop (Or.inr rfl) ?_ ?_ hwf
    · simp only [resA, resOne, resTv, AV.tv, push_cast, Nat.reduceAdd, Nat.reduceMul, Nat.reduceSub, Nat.reduceLeDiff, Nat.reduceLT, Nat.reduceEqDiff, Nat.reduceBEq, Nat.reduceBNe, Nat.reduceMod, Nat.reduceDiv, Int.reduceLE, Int.reduceLT, Int.reduceToNat, Int.reduceAdd, Int.reduceSub, Int.reduceMul, Int.reduceNeg, Int.reduceEq, Int.reduceBEq, Int.reduceBNe, ↓reduceIte, reduceCtorEq, String.reduceBNe, String.reduceEq, reduceDIte, Nat.reducePow, hb, lk_old hb, hfull, n0, n2, n3, n5, hz0, il_len, Int.le_refl, Nat.le_refl, hall]
    · rfl
end Go.Proofs.Ytppolbilohkjmaa
